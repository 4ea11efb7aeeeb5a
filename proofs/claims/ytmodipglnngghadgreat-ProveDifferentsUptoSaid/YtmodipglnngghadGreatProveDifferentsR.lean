/-
  The texts that the proof stands on, part 18.
-/
import Derived.Test.YtmodipglnngghadGreatProveDifferentsQ
import Derived.Sort.Grow
import Derived.KernelRfl
set_option linter.unusedVariables false
set_option linter.unusedSimpArgs false
set_option linter.unnecessarySimpa false

/-! A stack of numbers, handed over as a row of cells. -/
section
namespace Go.Lw
open Go Go.Sort
section
variable {fi:FI} {M M':Mem} {w w' W:World} {P:Program}
theorem j16c {b k:Nat} (h:W.heap[b]?=w.heap[b]?):W.cell? ⟨b,k,none⟩=w.cell? ⟨b,k,none⟩:=by
 simp[World.cell?,h]
theorem GI.restk {gh:List GObj} (hG:GI fi M w gh) {b gen:Nat} {xs zs:List PV} (hgh:gh[b]?=some (.stk gen xs)) {cs2:Array Value} {T:TypeId} (hos:W.os=w.os) (htp:W.tape=w.tape) (hout:W.output=w.output)
  (hsz:w.heap.size≤W.heap.size) (hoth:∀k,k<w.heap.size→k≠(M.st b).2.1→W.heap[k]?=w.heap[k]?) (hblk:W.heap[(M.st b).2.1]?=some (.cells cs2 T (0,0))) (hcs:cs2.size=(M.st b).2.2) (hlen:zs.length≤cs2.size)
  (hf:∀x∈zs,isFlat x=true) (hr:∀(j:Nat) (x:PV),zs[j]?=some x→∃u,cs2[j]?=some u∧RepP fi M W x u):GI fi M W (gh.set b (.stk gen zs))∧Kp M w M W:=by
 have hbl:b<gh.length:=(List.getElem?_eq_some_iff.1 hgh).1
 have hbg:b<M.gb.length:=by rw[hG.gbl];exact hbl
 obtain⟨o1,o2,o3,o4,o5,cs0,T0,o6,o7,o8,o9⟩:RepStk fi M w b M.gb[b] gen xs:=hG.gh b _ _ hgh (List.getElem?_eq_getElem hbg)
 have g:Good M w M W (fun l=>l=Loc.gh b 0) (fun _=>False):=by
  refine⟨⟨fun _ _ h=>h,fun _ _ h=>h,fun bb k h=>?_,fun _ _=>⟨Nat.le_refl _,fun _=>rfl⟩⟩,hsz,fun _ _ h=>h,fun bb l h hl=>?_,fun bb hb _ h=>?_,fun _ _=>rfl⟩
  ·exact j16c (hoth bb (hG.immlt bb k h) (fun e=>o4 k (by rw[←e];exact h)))
  ·exact⟨h,hoth bb (hG.ownlt bb l h) (fun e=>hl (by rw[e,o3] at h;cases h;rfl)),fun _ h=>h,id,id⟩
  ·exact⟨hoth bb hb (fun e=>by rw[e,o3] at h;cases h),fun _ h=>h,h⟩
 have k:Kp M w M W:=⟨hos,htp,hout,hsz,g.ext,fun i hi _ _ ho=>hoth i hi (fun e=>by rw[e,o3] at ho;cases ho),fun _ h=> .inl h,fun _ h=> .inl h,fun _ _ h=>h,fun _ _ h=> .inl h⟩
 refine⟨⟨fun t v h=>by simp[get] at h,rfl,hG.lbl,by simpa using hG.gbl,hG.nodup,fun i cs blk h=>by simp at h,fun i o blk h1 h2=>?_,g.ext.gl hG.gl,fun bb j h=>Nat.lt_of_lt_of_le (hG.immlt bb j h) hsz,fun bb l h=>Nat.lt_of_lt_of_le (hG.ownlt bb l h) hsz,fun bb h=>Nat.lt_of_lt_of_le (hG.gblt bb h) hsz⟩,k⟩
 simp only at h1
 rw[List.getElem?_set] at h1
 by_cases hbi:b=i
 ·subst hbi
  rw[if_pos rfl,if_pos hbl] at h1
  cases h1
  have eb:M.gb[b]=blk:=by rw[List.getElem?_eq_getElem hbg] at h2;exact Option.some.inj h2
  exact⟨by rw[←eb];exact o1,o2,o3,o4,hf,cs2,T,hblk,hcs,hlen,hr⟩
 ·rw[if_neg hbi] at h1
  exact (hG.gh i o blk h1 h2).good g id (fun j h=>by injection h with h1 h2;exact hbi h1.symm)
theorem jzj {w:World} {n blk:Nat} {d:Array Int} {os:Array Obj} (k:Nat) (hk:k<w.heap.size):(grow (putRow (Value.int .i64) (Sort.ahead w n) blk 0 d) os).heap[k]?=if k=blk then w.heap[k]?.map (onCells (putCells (Value.int .i64) 0 d)) else w.heap[k]?:=by
 have e:(grow (putRow (Value.int .i64) (Sort.ahead w n) blk 0 d) os).heap=w.heap.modify blk (onCells (putCells (Value.int .i64) 0 d))++os:=rfl
 rw[e,Array.getElem?_append_left (by simpa using hk),Array.getElem?_modify]
 by_cases h:k=blk
 ·subst h;simp
 ·simp[h,Ne.symm h]
theorem j16d {d:Array Int} {cs:Array Value} (j:Nat) (hj:j<cs.size):(putCells (Value.int .i64) 0 d cs)[j]?=if h:j<d.size then some (.int .i64 d[j]) else cs[j]?:=by
 unfold putCells
 rw[Array.getElem?_mapIdx,Array.getElem?_eq_getElem hj]
 by_cases h:j<d.size<;>simp[h]
theorem jzk {gh:List GObj} (hG:GI fi M w gh) {b gen:Nat} {xs:List PV} {zs:List Int} (hgh:gh[b]?=some (.stk gen xs)) (hu:unInts xs=some zs) {v:Value} (hv:RepP fi M w (.stk b gen xs.length) v) :
  ∃ c,v= .slice (some ⟨(M.st b).2.1,0,none⟩) zs.length c∧zs.length≤c∧c≤(M.st b).2.2∧Holds (Value.int .i64) w (M.st b).2.1 0 zs.toArray∧(M.st b).2.1<w.heap.size∧
   ∀(W:World) (n:Nat) (os:Array Obj) (d ys:List Int),d.length=zs.length→ys <+:d→W=grow (putRow (Value.int .i64) (Sort.ahead w n) (M.st b).2.1 0 d.toArray) os→
    GI fi M W (gh.set b (.stk gen (ys.map (PV.int .i64))))∧Kp M w M W:=by
 have hbl:b<gh.length:=(List.getElem?_eq_some_iff.1 hgh).1
 have hbg:b<M.gb.length:=by rw[hG.gbl];exact hbl
 obtain⟨o1,o2,o3,o4,o5,cs,T,o6,o7,o8,o9⟩:RepStk fi M w b M.gb[b] gen xs:=hG.gh b _ _ hgh (List.getElem?_eq_getElem hbg)
 have hx:=jtq hu
 have hxl:xs.length=zs.length:=by rw[hx];simp
 have hlt:(M.st b).2.1<w.heap.size:=(Array.getElem?_eq_some_iff.1 o6).1
 cases hv with
 |stk _ _ _ blk c hb hg hA hc=>
 obtain⟨rfl,hcc⟩:=hA o2.symm
 refine⟨c,by rw[hxl],by omega,hcc,fun j hj=>?_,hlt,fun W n os d ys hd hys hW=>?_⟩
 ·have hj':j<zs.length:=by simpa using hj
  obtain⟨u,hu1,hu2⟩:=o9 j (.int .i64 zs[j]) (by rw[hx];simp[hj'])
  cases hu2
  refine⟨?_,?_⟩
  ·rw[Nat.zero_add]
   simp[World.cell?,o6,hu1,hj']
  ·simp[World.frozen?,o6]
 ·subst hW
  obtain⟨rest,rfl⟩:=hys
  have hh:=jzj (n:=n) (d:=(ys++rest).toArray) (os:=os) (blk:=(M.st b).2.1) _ hlt
  rw[if_pos rfl,o6] at hh
  have hlen:(ys++rest).length≤cs.size:=by omega
  refine hG.restk hgh (cs2:=putCells (Value.int .i64) 0 (ys++rest).toArray cs) (T:=T) rfl rfl rfl ?_ (fun k hk hne=>by rw[jzj k hk,if_neg hne]) hh (by simpa [putCells] using o7) ?_ ?_ ?_
  ·show _≤(w.heap.modify _ _++os).size
   simp
  ·simp only[List.length_append] at hlen
   simp[putCells];omega
  ·intro x hx
   obtain⟨z,_,rfl⟩:=List.mem_map.1 hx
   rfl
  ·intro j x hj
   rw[List.getElem?_map,Option.map_eq_some_iff] at hj
   obtain⟨z,hz,rfl⟩:=hj
   have hjl:=(List.getElem?_eq_some_iff.1 hz).1
   simp only[List.length_append] at hlen
   refine⟨.int .i64 z,?_,.int _ _⟩
   rw[j16d j (by omega),dif_pos (by simp;omega)]
   simp only[List.getElem_toArray]
   rw[List.getElem_append_left hjl]
   rw[List.getElem?_eq_getElem hjl] at hz
   rw[Option.some.inj hz]
end
end Go.Lw
end

/-! The law GatesAnds, of the machine: it answers true. -/
section
namespace Go.Lw
open Go
section
variable {ins:Int} {ands:List (Int×Int)} {gh:List GObj}
end
theorem jy5 {g:Bool} {bytes:Nat} {l:List CS} {p:PV} (h:csOk (.slice g bytes l) p):∃xs,p= .sl false l.length xs∧xs.length*bytes≤reachBytes∧∀e∈xs,(g=true∧∃ps,e= .agg ps∧csAll l ps)∨(g=false∧csAll l [e]):=by
 unfold csOk at h;exact h
theorem jy6:∀{xs:List PV},(∀e∈xs,(true=true∧∃ps,e= .agg ps∧csAll [.int,.int] ps)∨(true=false∧csAll [.int,.int] [e]))→∃ands,RA ands∧xs=ands.map andV
 |[],_=>⟨[],fun x h=>(by cases h),rfl⟩
 | e::xs,h=>by
  obtain⟨ands,hr,rfl⟩:=jy6 (xs:=xs) fun e he=>h e (List.mem_cons_of_mem _ he)
  rcases h e (by simp) with ⟨-,ps,rfl,hp⟩|⟨h,-⟩
  ·obtain⟨_,_,rfl,g0,hp⟩:=jri hp
   obtain⟨_,_,rfl,g1,hp⟩:=jri hp
   obtain rfl:=jtp hp
   obtain⟨a,rfl,ha⟩:=js6 g0
   obtain⟨b,rfl,hb⟩:=js6 g1
   refine⟨(a,b)::ands,fun x hx=>?_,rfl⟩
   rcases List.mem_cons.1 hx with rfl|hx
   ·exact⟨ha,hb⟩
   ·exact hr x hx
  ·cases h
end Go.Lw
end

/-! The law GatesEvals, of the machine: it answers true. -/
section
namespace Go.Lw
open Go
section
variable {ins:Int} {ands:List (Int×Int)} {gh:List GObj}
theorem jy7 (hi:0≤ins∧ins≤1000) (hl:ands.length≤1000000) {lits:List Int} (hs:Sz lits.length):∀k i,i+k=lits.length→
  runL pg q4v ⟨[(1,LI lits),(2,.ptr false 0 0),(5,I (i:Int))],[[I ins,.sl false 2 (ands.map andV)]],gh⟩=
   if (lits.drop i).all (isLit ins ands)=true then some (.normal,⟨[],[],gh⟩) else some (.ret,⟨[(4,B false)],[],gh⟩)
 |0,i,h=>by
  rw[List.drop_eq_nil_of_le (by omega),List.all_nil,if_pos rfl]
  have hlt:¬i<lits.length:=by omega
  refine (jqy (s1:=?s1) (q3c_ ?h1)).trans ?r1
  case h1=>simp[q3c,hlt];rfl
  case r1=>simp[keep]
 | k+1,i,h=>by
  have hlt:i<lits.length:=by omega
  have e3:IntKind.i64.wrap ((i:Int)+1)=((i+1:Nat):Int):=jrj (by simp only[Sz] at hs ⊢;omega)
  have hL:=jy2 (gh:=gh) hi hl lits[i]
  unfold graphV at hL
  have hg:(lits.map I)[i]?=some (I lits[i]):=by simp[List.getElem?_eq_getElem hlt]
  rw[List.drop_eq_getElem_cons hlt,List.all_cons]
  cases hx:isLit ins ands lits[i] with
  | true=>
   rw[hx] at hL
   refine jqw (s1:=⟨[(1,LI lits),(2,.ptr false 0 0),(5,I ((i+1:Nat):Int))],[[I ins,.sl false 2 (ands.map andV)]],gh⟩) (q3c_ ?h2) ?r2
   case h2=>simp[q3c,hlt,hL,e3]
   case r2=>
    rw[Bool.true_and]
    exact jy7 hi hl hs k (i+1) (by omega)
  |false=>
   rw[hx] at hL
   rw[Bool.false_and,if_neg (by simp)]
   refine lp_ret (q3c_ ?h3)
   case h3=>simp[q3c,hlt,hL]
theorem j14t (hi:0≤ins∧ins≤1000) (hl:ands.length≤1000000) {lits:List Int} (hs:Sz lits.length):callL pg 10 [graphV ins ands,LI lits] gh=some (B (lits.all (isLit ins ands)),gh):=by
 have h:=jy7 (gh:=gh) hi hl hs lits.length 0 (by omega)
 rw[List.drop_zero] at h
 simp only[Int.natCast_zero] at h
 cases hx:lits.all (isLit ins ands) with
 |true=>
  rw[if_pos hx] at h
  have hk:=qq2_ (pg:=pg) (gh:=gh) (e:= .ret) (s:=⟨[(4,B true)],[],gh⟩) rfl
  refine jqs (fn:=q1e) (s:=?s1) rfl rfl (q75_ ?h1) ?r1
  case h1=>simp[q75,h,hk];rfl
  case r1=>simp[finish,results,q1e,resOfs,resOf,resOk]
 |false=>
  rw[if_neg (by rw[hx];simp)] at h
  refine jqs (fn:=q1e) (s:=?s2) rfl rfl (q75_ ?h2) ?r2
  case h2=>simp[q75,h];rfl
  case r2=>simp[finish,results,q1e,resOfs,resOf,resOk]
end
def RI (l:List Int):Prop:=∀x∈l,-9223372036854775808≤x∧x≤9223372036854775807
theorem jy8:∀{xs:List PV},(∀e∈xs,(false=true∧∃ps,e= .agg ps∧csAll [.int] ps)∨(false=false∧csAll [.int] [e]))→∃v:List Int,RI v∧xs=v.map I
 |[],_=>⟨[],fun x h=>(by cases h),rfl⟩
 | e::xs,h=>by
  obtain⟨v,hr,rfl⟩:=jy8 (xs:=xs) fun e he=>h e (List.mem_cons_of_mem _ he)
  rcases h e (by simp) with ⟨h,-⟩|⟨-,hp⟩
  ·cases h
  ·obtain⟨_,_,e1,g0,hp⟩:=jri hp
   cases jtp hp
   simp only[List.cons.injEq,and_true] at e1
   subst e1
   obtain⟨b,rfl,hb⟩:=js6 g0
   refine⟨b::v,fun x hx=>?_,rfl⟩
   rcases List.mem_cons.1 hx with rfl|hx
   ·exact hb
   ·exact hr x hx
theorem jy9 {c:CS} {p:PV} (h:argTy (false,[c]) p):csOk c p:=by
 obtain⟨q,ps,e,h1,h2⟩:=jri h
 cases jtp h2
 simp only[List.cons.injEq,and_true] at e
 subst e;exact h1
theorem jtx {p:PV} (h:argTy (false,[.slice false 8 [.int]]) p):∃v:List Int,p=LI v∧RI v∧v.length*8≤reachBytes:=by
 obtain⟨xs,rfl,hb,hx⟩:=jy5 (jy9 h)
 obtain⟨v,hr,rfl⟩:=jy8 hx
 refine⟨v,rfl,hr,?_⟩
 simpa using hb
end Go.Lw
end

/-! Circuits: what Check comes to (the program's and the document's), and the law. -/
section
namespace Go.Lw
open Go
structure Ci where
 ins:Int
 ands:List (Int×Int)
 inp:Int
 st:Int
 inits:List Int
 nexts:List Int
 bads:List Int
 holds:List Int
abbrev ciV (c:Ci):PV:= .agg [I c.ins,.sl false 2 (c.ands.map andV),I c.inp,I c.st,LI c.inits,LI c.nexts,LI c.bads,LI c.holds]
def ciE (c:Ci):Int:=
 if chkE c.ins c.ands=0 then
  if c.inp<0 then 4 else if c.st<0 then 4 else if IntKind.i64.wrap (c.inp+c.st)=c.ins then
   if (c.inits.length:Int)=c.st then if (c.nexts.length:Int)=c.st then
    if ((noNeg c.inits).all (isLit c.ins c.ands)&&(c.nexts.all (isLit c.ins c.ands)&&(c.bads.all (isLit c.ins c.ands)&&c.holds.all (isLit c.ins c.ands))))=true then 0 else 5
   else 1 else 1
  else 4
 else chkE c.ins c.ands
section
variable {gh:List GObj}
theorem j14y {A:List Int} (h:A.length*8≤maxBytes):∃r6 gh7 w6 r8 gh9,callL pg 121 [LI A] gh=some (r6,gh7)∧degr r6=w6∧(∀{R:Type} (x:Option R),isC r6 x=x)∧(∀{R:Type} (x:Option R),arK w6 x=x)∧
  callL pg 343 [w6,.fn 215 []] gh7=some (r8,gh9)∧Els gh9 r8 (noNeg A)∧gh9.take gh.length=gh:=by
 have hm:maxBytes=140737488355328:=rfl
 by_cases hA:A=[]
 ·subst hA
  refine⟨.sl true 1 [],gh,.sl false 1 [],.sl false 1 [],gh,?_,rfl,fun _=>rfl,fun _=>rfl,df_nil,.inl rfl,by simp⟩
  have:callL pg 121 [.sl false 1 []] gh=libCloneK 8 [.sl false 1 []] gh:=rfl
  rw[show LI []= .sl false 1 [] from rfl,this,libCloneK,if_pos rfl,libClone,if_pos ⟨rfl,by simp⟩]
 ·have hfl:(A.map I).all isFlat=true:=by
   rw[List.all_eq_true];intro v hv;obtain⟨n,-,rfl⟩:=List.mem_map.1 hv;rfl
  obtain⟨i,zs,e1,e2,e3,e4⟩:=df_eq (gh:=gh++[.stk 1 (A.map I)]) (xs:=A) (b:=gh.length) (g:=1) (by simp) (by simp) (by simp only[Sz];omega)
  refine⟨.stk gh.length 1 A.length,gh++[.stk 1 (A.map I)],.stk gh.length 1 A.length,_,_,?_,rfl,fun _=>rfl,fun _=>rfl,e1,?_,?_⟩
  ·have:callL pg 121 [.sl false 1 (A.map I)] gh=libCloneK 8 [.sl false 1 (A.map I)] gh:=rfl
   rw[this,libCloneK,if_neg (by simpa using hA),if_pos ⟨rfl,by simpa using h,hfl⟩,List.length_map]
  ·exact .inr ⟨_,_,_,zs,rfl,by simp,by omega,e4⟩
  ·rw[List.take_set_of_le (Nat.le_refl _)];simp
theorem j14z (c:Ci) (hr:RA c.ands) (hs:(c.inits.length+c.nexts.length+c.bads.length+c.holds.length)*8≤maxBytes):callL pg 212 [ciV c] gh=some (I (ciE c),gh):=by
 have hm:maxBytes=140737488355328:=rfl
 obtain⟨ins,ands,inp,st,A,B',C,D⟩:=c
 simp only at hr hs
 have hC:=j14l (ins:=ins) (gh:=gh) hr
 have fin:∀(e:Int) (s:St) (gh':List GObj),s=⟨[(2,I e)],[],gh'⟩→gh'.take gh.length=gh→runL pg q3s ⟨[(0,.agg [I ins,.sl false 2 (ands.map andV),I inp,I st,LI A,LI B',LI C,LI D])],[],gh⟩=some (.ret,s)→callL pg 212 [.agg [I ins,.sl false 2 (ands.map andV),I inp,I st,LI A,LI B',LI C,LI D]] gh=some (I e,gh):=by
  intro e s gh' hs' ht hrun
  subst hs'
  refine jqs (fn:=q3t) rfl rfl hrun ?_
  simp[finish,results,q3t,resOfs,resOf,resOk,get,ht]
 unfold ciE
 simp only[ciV]
 by_cases he:chkE ins ands=0
 ·rw [if_pos he]
  rw[he] at hC
  have hz:=jtw he
  have hI:=fun {lits:List Int} {gh:List GObj} (hs:Sz lits.length)=>Is_eq (gh:=gh) (lits:=lits) hz.1 hz.2.1 hs
  simp only[graphV] at hC hI
  generalize isLit ins ands=p at *
  generalize ands.map andV=G at *
  by_cases h1:inp<0
  ·rw[if_pos h1]
   refine fin 4 _ gh rfl (by simp) (qe_ ?h1)
   case h1=>simp[qe,hC,h1]
  rw[if_neg h1]
  by_cases h2:st<0
  ·rw[if_pos h2]
   refine fin 4 _ gh rfl (by simp) (qe_ ?h2)
   case h2=>simp[qe,hC,h1,h2]
  rw[if_neg h2]
  by_cases h3:IntKind.i64.wrap (inp+st)=ins
  ·rw [if_pos h3]
   by_cases h4:(A.length:Int)=st
   ·rw [if_pos h4]
    by_cases h5:(B'.length:Int)=st
    ·rw[if_pos h5]
     have e3:(IntKind.i64.wrap (inp+st) !=ins)=false:=by simp[h3]
     have e4:((A.length:Int) !=st)=false:=by simp[h4]
     have e5:((B'.length:Int) !=st)=false:=by simp[h5]
     obtain⟨r6,gh7,w6,r8,gh9,q1,q2,q3,q4,q5,q6,q7⟩:=j14y (gh:=gh) (A:=A) (by omega)
     have hcc:=cc_eq (gh:=gh9) (l:=[(r8,noNeg A),(LI B',B'),(LI C,C),(LI D,D)]) (by
      intro x hx
      simp only[List.mem_cons,List.not_mem_nil,or_false] at hx
      rcases hx with rfl|rfl|rfl|rfl
      ·exact q6
      ·exact .inl rfl
      ·exact .inl rfl
      ·exact .inl rfl) (by
       have:(noNeg A).length≤A.length:=List.length_filter_le _ _
       simp only[sumL,List.map_cons,List.map_nil,List.sum_cons,List.sum_nil]
       omega) (by simp only[Sz,List.length_cons,List.length_nil];omega)
     have hlen:Sz (noNeg A++(B'++(C++D))).length:=by
      have:(noNeg A).length≤A.length:=List.length_filter_le _ _
      simp only[List.length_append,Sz];omega
     have his:=hI (gh:=gh9) hlen
     simp only[cV,List.map_cons,List.map_nil,List.flatMap_cons,List.flatMap_nil,List.append_nil] at hcc
     rw[show (noNeg A++(B'++(C++D))).all p=((noNeg A).all p&&(B'.all p&&(C.all p&&D.all p))) by simp only[List.all_append]] at his
     generalize ((noNeg A).all p&&(B'.all p&&(C.all p&&D.all p)))=ok at *
     simp only[LI] at *
     generalize (noNeg A++(B'++(C++D))).map I=W at *
     cases ok with
     |true=>
      rw[if_pos rfl]
      refine fin 0 _ gh9 rfl q7 (qe_ ?h3)
      case h3=>simp[qe,hC,h1,h2,h3,h4,h5,q1,q2,q3,q4,q5,q6.isC,q6.st,q6.dg,q6.ar,q6.ln,hcc,his]
     |false=>
      rw[if_neg (by decide)]
      refine fin 5 _ gh9 rfl q7 (qe_ ?h4)
      case h4=>simp[qe,hC,h1,h2,h3,h4,h5,q1,q2,q3,q4,q5,q6.isC,q6.st,q6.dg,q6.ar,q6.ln,hcc,his]
    ·rw[if_neg h5]
     refine fin 1 _ gh rfl (by simp) (qe_ ?h5)
     case h5=>simp[qe,hC,h1,h2,h3,h4,h5]
   ·rw[if_neg h4]
    refine fin 1 _ gh rfl (by simp) (qe_ ?h6)
    case h6=>simp[qe,hC,h1,h2,h3,h4]
  ·rw[if_neg h3]
   refine fin 4 _ gh rfl (by simp) (qe_ ?h7)
   case h7=>simp[qe,hC,h1,h2,h3]
 ·rw[if_neg he]
  have he':(chkE ins ands !=0)=true:=by simp[he]
  simp only[graphV] at hC
  generalize chkE ins ands=e at *
  generalize ands.map andV=G at *
  refine fin e _ gh rfl (by simp) (qe_ ?h8)
  case h8=>simp[qe,hC,he]
end
end Go.Lw
end

/-! Unrolling: a maker of clauses that lies ahead of other boxes; a state's number; what is bound; what is bad. -/
section
namespace Go.Lw
open Go
def mkR (gh:List GObj) (vars:Int) (cls:List (List Int)) (rest:List GObj):List GObj:=gh++ .cells [I vars,.sl true 1 (cls.map fun l=>LI l)]::rest
def uroO (m:Nat) (c:Ci) (f:Int):GObj:= .cells [.ptr true m 0,I c.ins,.sl false 2 (c.ands.map andV),I c.inp,I c.st,LI c.inits,LI c.nexts,LI c.bads,LI c.holds,I f]
section
variable {gh rest:List GObj}
theorem j154 {vars:Int} {cls:List (List Int)}:(mkR gh vars cls rest)[gh.length]?=some (.cells [I vars,.sl true 1 (cls.map fun l=>LI l)]):=by simp[mkR]
theorem mkR_un {vars:Int} {cls:List (List Int)} {x:GObj}:(mkR gh vars cls (x::rest))[gh.length+1]?=some x:=by
 simp[mkR]
theorem jre {vars:Int} {cls:List (List Int)} {c:List Int} (hs:cls.length≤5000000000000):callL pg 91 [.ptr true gh.length 0,LI c] (mkR gh vars cls rest)=some (.tup [],mkR gh vars (cls++[c]) rest):=by
 have hmx:(cls.length+1)*24≤maxBytes:=by
  have:maxBytes=140737488355328:=rfl
  omega
 have h1:=qc4_ (pg:=pg) (gh:=mkR gh vars cls rest) (g0:=gh.length) (o0:=0) (v1:=LI c) (e:= .normal) (s:=⟨[],[],mkR gh vars (cls++[c]) rest⟩) (by
  simp[qc4,mkR,hmx,spliceAt])
 rw[jrm (fn:=q41) rfl rfl h1]
 simp[finish,results,q41,resOfs,resOk]
theorem jyl {r more vars:Int} {cls:List (List Int)} (hs:cls.length≤5000000000000):callL pg 54 [.ptr true gh.length 0,I r,I more] (mkR gh vars cls rest)=some (.tup [],mkR gh vars (cls++mustC r more) rest):=by
 have h1:runL pg q3x ⟨[(0,.ptr true gh.length 0),(1,I r),(2,I more)],[],mkR gh vars cls rest⟩=some (.normal,⟨[],[],mkR gh vars (cls++mustC r more) rest⟩):=by
  refine q3e_ ?_
  by_cases h1:r=1
  ·simp[q3e,h1,mustC]
  by_cases h0:r=0
  ·have ha:=jre (gh:=gh) (rest:=rest) (vars:=vars) (cls:=cls) (c:=[]) hs
   simp only[LI,List.map_nil] at ha
   simp[q3e,h0,mustC,ha]
  ·have hn:=jta r more (mkR gh vars cls rest)
   have ha:=jre (gh:=gh) (rest:=rest) (vars:=vars) (cls:=cls) (c:=[numE r more]) hs
   simp only[LI,List.map_cons,List.map_nil] at ha
   simp[q3e,h1,h0,mustC,hn,ha]
 rw[jrm (fn:=q3y) rfl rfl h1]
 simp[finish,results,q3y,resOfs,resOk]
variable {ins:Int} {ands:List (Int×Int)}
def anR (gh:List GObj) (ins:Int) (ands:List (Int×Int)) (more vars:Int) (cls:List (List Int)) (rest:List GObj) (i:Nat):St:=
 ⟨[(0,.ptr true gh.length 0),(2,I more),(4,.ptr false 0 0),(12,.sl false 2 (ands.map andV)),(13,I ands.length),(14,I (i:Int))],[[I ins,.sl false 2 (ands.map andV)]],mkR gh vars cls rest⟩
theorem j155 {more vars:Int} {cls:List (List Int)} {i:Nat} (hlt:i<ands.length) (hl:ands.length≤1000000) (hs:cls.length≤900000000) :
  q3d pg gh.length 0 more (.sl false 2 (ands.map andV)) ands.length i ins (.sl false 2 (ands.map andV)) (mkR gh vars cls rest)=some (.normal,anR gh ins ands more vars (cls++andC ins more i ands[i]) rest (i+1)):=by
 have e2:IntKind.i64.wrap ((i:Int)+1)=((i+1:Nat):Int):=by rw[jqv (by omega) (by omega)];omega
 have hx:(ands.map andV)[i]?=some (.agg [I ands[i].1,I ands[i].2]):=by simp[List.getElem?_eq_getElem hlt,andV]
 generalize hy:ands[i]=x at *
 obtain⟨a,b⟩:=x
 have hltI:(i:Int)<(ands.length:Int):=by omega
 have hn1:=jta a more (mkR gh vars cls rest)
 have hn2:=jta b more (mkR gh vars cls rest)
 have ha1:=jre (gh:=gh) (rest:=rest) (vars:=vars) (cls:=cls) (c:=[negI (nOf ins more i),numE a more]) (by omega)
 have ha2:=jre (gh:=gh) (rest:=rest) (vars:=vars) (cls:=cls++[[negI (nOf ins more i),numE a more]]) (c:=[negI (nOf ins more i),numE b more]) (by simp;omega)
 have ha3:=jre (gh:=gh) (rest:=rest) (vars:=vars) (cls:=(cls++[[negI (nOf ins more i),numE a more]])++[[negI (nOf ins more i),numE b more]]) (c:=[nOf ins more i,negI (numE a more),negI (numE b more)]) (by simp;omega)
 have e3:((cls++[[negI (nOf ins more i),numE a more]])++[[negI (nOf ins more i),numE b more]])++[[nOf ins more i,negI (numE a more),negI (numE b more)]]=cls++andC ins more i (a,b):=by simp[andC]
 rw[e3] at ha3
 simp only at hx
 generalize hN:nOf ins more i=N at *
 generalize hA:numE a more=A at *
 generalize hB:numE b more=B' at *
 unfold nOf at hN
 simp only[LI,List.map_cons,List.map_nil,negI] at ha1 ha2 ha3
 unfold anR
 generalize mkR gh vars (cls++andC ins more i (a,b)) rest=g3 at *
 generalize mkR gh vars (cls++[[IntKind.i64.wrap (-N),A]]++[[IntKind.i64.wrap (-N),B']]) rest=g2 at *
 generalize mkR gh vars (cls++[[IntKind.i64.wrap (-N),A]]) rest=g1 at *
 generalize mkR gh vars cls rest=g0 at *
 simp[q3d,hltI,hx,hn1,hn2,hN,ha1,ha2,ha3,e2,-List.getElem?_map]
theorem jym {more vars:Int} (hl:ands.length≤1000000):∀k i (cls:List (List Int)),i+k=ands.length→cls.length+3*k≤900000000→
  runL pg q3v (anR gh ins ands more vars cls rest i)=some (.normal,⟨[],[],mkR gh vars (cls++andsC ins more i (ands.drop i)) rest⟩)
 |0,i,cls,h,_=>by
  rw[List.drop_eq_nil_of_le (by omega)]
  have hlt:¬(i:Int)<(ands.length:Int):=by omega
  refine (jqy (s1:=?s1) (q3d_ ?h1)).trans ?r1
  case h1=>simp only[q3d,decide_eq_false hlt,jr9];rfl
  case r1=>simp[keep,andsC]
 |k+1,i,cls,h,hs=>by
  have hlt:i<ands.length:=by omega
  refine jqw (q3d_ (j155 hlt hl (by omega))) ?_
  rw[List.drop_eq_getElem_cons hlt,andsC,←List.append_assoc]
  exact jym hl k (i+1) _ (by omega) (by simp[andC];omega)
theorem j156 {more vars:Int} {cls:List (List Int)} (hl:ands.length≤1000000) (hs:cls.length+3*ands.length≤900000000):callL pg 53 [.ptr true gh.length 0,graphV ins ands,I more] (mkR gh vars cls rest)=some (.tup [],mkR gh vars (cls++andsC ins more 0 ands) rest):=by
 have h:=jym (gh:=gh) (rest:=rest) (ins:=ins) (more:=more) (vars:=vars) hl ands.length 0 cls (by omega) hs
 rw[List.drop_zero] at h
 unfold anR at h
 simp only[Int.natCast_zero] at h
 generalize mkR gh vars (cls++andsC ins more 0 ands) rest=g1 at *
 generalize mkR gh vars cls rest=g0 at *
 have h1:=qc6_ (pg:=pg) (gh:=g0) (g0:=gh.length) (o0:=0) (x1_0:=ins) (v1_1:= .sl false 2 (ands.map andV)) (x2:=more) (e:= .normal) (s:=⟨[],[],g1⟩) (by
  simp[qc6,h])
 rw[jrm (fn:=q3w) rfl rfl h1]
 simp[finish,results,q3w,resOfs,resOk]
end
def stE (f inp t i:Int):Int:=IntKind.i64.wrap (IntKind.i64.wrap (IntKind.i64.wrap (IntKind.i64.wrap (t*f)+1)+inp)+i)
theorem jtz {G:List GObj} {u m:Nat} {c:Ci} {f t i:Int} {so:Bool} (hu:G[u]?=some (uroO m c f)):callL pg 292 [.ptr true u 0,I t,I i,B so] G=some (I (if so then stE f c.inp t i else negI (stE f c.inp t i)),G):=by
 unfold uroO at hu
 cases so with
 |true=>
  refine jqs (fn:=q1r) (s:=?s1) rfl rfl (q7a_ ?h1) ?r1
  case h1=>simp[q7a,hu];rfl
  case r1=>simp[finish,results,q1r,resOfs,resOf,resOk,stE]
 |false=>
  refine jqs (fn:=q1r) (s:=?s2) rfl rfl (q7a_ ?h2) ?r2
  case h2=>simp[q7a,hu];rfl
  case r2=>simp[finish,results,q1r,resOfs,resOf,resOk,stE,negI]
def bind1 (f inp t i x:Int):List (List Int):=
 if x<2 then [[if x=1 then stE f inp t i else negI (stE f inp t i)]]
 else [[negI (stE f inp t i),numE x (IntKind.i64.wrap (IntKind.i64.wrap (t-1)*f))],[stE f inp t i,negI (numE x (IntKind.i64.wrap (IntKind.i64.wrap (t-1)*f)))]]
def bindC (f inp t:Int):Nat→List Int→List (List Int)
 |_,[]=>[]
 |i,x::l=>bind1 f inp t i x++bindC f inp t (i+1) l
theorem jve (f inp t i x:Int):(bind1 f inp t i x).length≤2:=by unfold bind1;split<;>simp
theorem jsm (f inp t:Int):∀(i:Nat) (l:List Int),(bindC f inp t i l).length≤2*l.length
 |_,[]=>Nat.le_refl _
 |i,x::l=>by
  have:=jve f inp t i x
  have:=jsm f inp t (i+1) l
  rw[bindC,List.length_append,List.length_cons];omega
theorem jyn (f inp t:Int):∀(i:Nat) (l:List Int),SL (bindC f inp t i l)
 |_,[]=>fun l h=>by cases h
 | i,x::r=>fun l h=>by
  rw[bindC] at h
  rcases List.mem_append.1 h with h|h
  ·unfold bind1 at h
   split at h
   ·simp at h;subst h;simp
   ·simp at h;rcases h with rfl|rfl<;>simp
  ·exact jyn f inp t (i+1) r l h
section
variable {gh rest:List GObj} {c:Ci} {f vars t:Int}
def W (gh:List GObj) (vars:Int) (cls:List (List Int)) (c:Ci) (f:Int) (rest:List GObj):List GObj:=mkR gh vars cls (uroO gh.length c f::rest)
theorem W_un {cls:List (List Int)}:(W gh vars cls c f rest)[gh.length+1]?=some (uroO gh.length c f):=mkR_un
def bnSt (gh:List GObj) (vars:Int) (cls:List (List Int)) (c:Ci) (f:Int) (rest:List GObj) (t:Int) (i:Nat):St:=
 ⟨[(0,.ptr true (gh.length+1) 0),(1,I t),(12,LI c.nexts),(13,I c.nexts.length),(14,I (i:Int))],[],W gh vars cls c f rest⟩
theorem j157 {cls:List (List Int)} {i:Nat} (hlt:i<c.nexts.length) (hl:c.nexts.length≤1000000000) (hs:cls.length≤900000000) :
  q1z pg (gh.length+1) 0 t (LI c.nexts) c.nexts.length i (W gh vars cls c f rest)=some (.normal,bnSt gh vars (cls++bind1 f c.inp t i c.nexts[i]) c f rest t (i+1)):=by
 have e2:IntKind.i64.wrap ((i:Int)+1)=((i+1:Nat):Int):=by rw[jqv (by omega) (by omega)];omega
 have hx:(c.nexts.map I)[i]?=some (I c.nexts[i]):=by simp[List.getElem?_eq_getElem hlt]
 have hltI:(i:Int)<(c.nexts.length:Int):=by omega
 have hS:=fun (so:Bool)=>jtz (so:=so) (t:=t) (i:=(i:Int)) (W_un (gh:=gh) (rest:=rest) (c:=c) (f:=f) (vars:=vars) (cls:=cls))
 have hS1:=hS true
 have hu0:=W_un (gh:=gh) (rest:=rest) (c:=c) (f:=f) (vars:=vars) (cls:=cls)
 unfold bnSt bind1
 simp only[if_true,LI] at hS1 ⊢
 generalize c.nexts[i]=x at *
 have hS2:=hS (decide (x=1))
 have hN:=jta x (IntKind.i64.wrap (IntKind.i64.wrap (t-1)*f)) (W gh vars cls c f rest)
 generalize hn:stE f c.inp t i=n at *
 generalize hA:numE x (IntKind.i64.wrap (IntKind.i64.wrap (t-1)*f))=A at *
 have hk:∀G:List GObj,runL pg q1q ⟨[(0,.ptr true (gh.length+1) 0),(1,I t),(12,.sl false 1 (c.nexts.map I)),(13,I c.nexts.length),(14,I (i:Int))],[],G⟩=some (.normal,⟨[(0,.ptr true (gh.length+1) 0),(1,I t),(12,.sl false 1 (c.nexts.map I)),(13,I c.nexts.length),(14,I ((i+1:Nat):Int))],[],G⟩):=fun G=>by
  refine qc9_ ?_
  simp[qc9,e2]
 by_cases h2:x<2
 ·rw[if_pos h2]
  have ha:=jre (gh:=gh) (rest:=uroO gh.length c f::rest) (vars:=vars) (cls:=cls) (c:=[if x=1 then n else negI n]) (by omega)
  have e1:(if decide (x=1)=true then n else negI n)=if x=1 then n else negI n:=by
   by_cases h:x=1<;>simp[h]
  rw[e1] at hS2
  generalize (if x=1 then n else negI n)=y at *
  simp only[LI,List.map_cons,List.map_nil] at ha
  have ha':callL pg 91 [.ptr true gh.length 0,.sl false 1 [I y]] (W gh vars cls c f rest)=some (.tup [],W gh vars (cls++[[y]]) c f rest):=ha
  generalize W gh vars (cls++[[y]]) c f rest=g1 at *
  generalize W gh vars cls c f rest=g0 at *
  unfold uroO at hu0
  simp[q1z,hltI,hx,hS1,hS2,h2,hu0,ha',hk,-List.getElem?_map]
 ·rw[if_neg h2]
  have ha1:=jre (gh:=gh) (rest:=uroO gh.length c f::rest) (vars:=vars) (cls:=cls) (c:=[negI n,A]) (by omega)
  have ha2:=jre (gh:=gh) (rest:=uroO gh.length c f::rest) (vars:=vars) (cls:=cls++[[negI n,A]]) (c:=[n,negI A]) (by simp;omega)
  have hu1:=W_un (gh:=gh) (rest:=rest) (c:=c) (f:=f) (vars:=vars) (cls:=cls++[[negI n,A]])
  rw[List.append_assoc] at ha2
  simp only[LI,List.map_cons,List.map_nil,negI,List.cons_append,List.nil_append] at ha1 ha2 hu1 ⊢
  have ha1':callL pg 91 [.ptr true gh.length 0,.sl false 1 [I (IntKind.i64.wrap (-n)),I A]] (W gh vars cls c f rest)=some (.tup [],W gh vars (cls++[[IntKind.i64.wrap (-n),A]]) c f rest):=ha1
  have ha2':callL pg 91 [.ptr true gh.length 0,.sl false 1 [I n,I (IntKind.i64.wrap (-A))]] (W gh vars (cls++[[IntKind.i64.wrap (-n),A]]) c f rest)=some (.tup [],W gh vars (cls++[[IntKind.i64.wrap (-n),A],[n,IntKind.i64.wrap (-A)]]) c f rest):=ha2
  generalize W gh vars (cls++[[IntKind.i64.wrap (-n),A],[n,IntKind.i64.wrap (-A)]]) c f rest=g2 at *
  generalize W gh vars (cls++[[IntKind.i64.wrap (-n),A]]) c f rest=g1 at *
  generalize W gh vars cls c f rest=g0 at *
  unfold uroO at hu0 hu1
  simp[q1z,hltI,hx,hS1,h2,hu0,hu1,hN,ha1',ha2',hk,-List.getElem?_map]
theorem jyo (hl:c.nexts.length≤1000000000):∀k i (cls:List (List Int)),i+k=c.nexts.length→cls.length+2*k≤900000000→
  runL pg q65 (bnSt gh vars cls c f rest t i)=some (.normal,⟨[],[],W gh vars (cls++bindC f c.inp t i (c.nexts.drop i)) c f rest⟩)
 |0,i,cls,h,_=>by
  rw[List.drop_eq_nil_of_le (by omega)]
  have hlt:¬(i:Int)<(c.nexts.length:Int):=by omega
  refine (jqy (s1:=?s1) (q1z_ ?h1)).trans ?r1
  case h1=>simp only[q1z,decide_eq_false hlt,jr9];rfl
  case r1=>simp[keep,bindC]
 |k+1,i,cls,h,hs=>by
  have hlt:i<c.nexts.length:=by omega
  refine jqw (q1z_ (j157 hlt hl (by omega))) ?_
  rw[List.drop_eq_getElem_cons hlt,bindC,←List.append_assoc]
  exact jyo hl k (i+1) _ (by omega) (by have:=jve f c.inp t i c.nexts[i];simp only[List.length_append];omega)
theorem j158 {cls:List (List Int)} (hl:c.nexts.length≤1000000000) (hs:cls.length+2*c.nexts.length≤900000000):callL pg 291 [.ptr true (gh.length+1) 0,I t] (W gh vars cls c f rest)=some (.tup [],W gh vars (cls++bindC f c.inp t 0 c.nexts) c f rest):=by
 have h:=jyo (gh:=gh) (rest:=rest) (vars:=vars) (f:=f) (t:=t) hl c.nexts.length 0 cls (by omega) hs
 have hu:=W_un (gh:=gh) (rest:=rest) (c:=c) (f:=f) (vars:=vars) (cls:=cls)
 rw[List.drop_zero] at h
 unfold bnSt at h
 simp only[Int.natCast_zero,LI] at h
 generalize W gh vars (cls++bindC f c.inp t 0 c.nexts) c f rest=g1 at *
 generalize W gh vars cls c f rest=g0 at *
 unfold uroO at hu
 have h1:=qca_ (pg:=pg) (gh:=g0) (g0:=gh.length+1) (o0:=0) (x1:=t) (e:= .normal) (s:=⟨[],[],g1⟩) (by
  simp[qca,hu,h])
 rw[jrm (fn:=q66) rfl rfl h1]
 simp[finish,results,q66,resOfs,resOk]
def badL (more:Int):List Int→List Int
 |[]=>[]
 |x::l=>if x=0 then badL more l else numE x more::badL more l
theorem jyp (more:Int):∀l:List Int,(badL more l).length≤l.length
 |[]=>Nat.le_refl _
 |x::l=>by
  have:=jyp more l
  rw[badL];split<;>simp<;>omega
def badC (more:Int) (l:List Int):List (List Int):=if 1∈l then [] else [badL more l]
def bdSt (gh:List GObj) (vars:Int) (cls:List (List Int)) (c:Ci) (f:Int) (rest:List GObj) (t:Int) (acc:List Int) (i:Nat):St:=
 ⟨[(0,.ptr true (gh.length+1) 0),(1,I t),(4,.sl true 1 (acc.map I)),(12,LI c.bads),(13,I c.bads.length),(14,I (i:Int))],[],W gh vars cls c f rest⟩
theorem jyq {cls:List (List Int)} (hl:c.bads.length≤1000000000):∀k i (acc:List Int),i+k=c.bads.length→acc.length≤i→
  (1∈c.bads.drop i→∃sl,runL pg q31 (bdSt gh vars cls c f rest t acc i)=some (.ret,⟨sl,[],W gh vars cls c f rest⟩))∧
  (1∉c.bads.drop i→runL pg q31 (bdSt gh vars cls c f rest t acc i)=some (.normal,⟨[(0,.ptr true (gh.length+1) 0),(4,.sl true 1 ((acc++badL (IntKind.i64.wrap (t*f)) (c.bads.drop i)).map I))],[],W gh vars cls c f rest⟩))
 |0,i,acc,h,_=>by
  rw[List.drop_eq_nil_of_le (by omega)]
  refine⟨fun h=>by simp at h,fun _=>?_⟩
  have hlt:¬(i:Int)<(c.bads.length:Int):=by omega
  refine (jqy (s1:=?s1) (qu_ ?h1)).trans ?r1
  case h1=>simp only[qu,decide_eq_false hlt,jr9];rfl
  case r1=>simp[keep,badL,stays]
 | k +1,i,acc,h,ha=>by
  have hm:maxBytes=140737488355328:=rfl
  have hlt:i<c.bads.length:=by omega
  have hltI:(i:Int)<(c.bads.length:Int):=by omega
  have e2:IntKind.i64.wrap ((i:Int)+1)=((i+1:Nat):Int):=by rw[jqv (by omega) (by omega)];omega
  have hx:(c.bads.map I)[i]?=some (I c.bads[i]):=by simp[List.getElem?_eq_getElem hlt]
  have hu:=W_un (gh:=gh) (rest:=rest) (c:=c) (f:=f) (vars:=vars) (cls:=cls)
  have hrec:=fun acc' (h':acc'.length≤i+1)=>jyq (cls:=cls) hl k (i+1) acc' (by omega) h'
  have hk:∀A:List Int,runL pg q1s ⟨[(0,.ptr true (gh.length+1) 0),(1,I t),(4,.sl true 1 (A.map I)),(12,.sl false 1 (c.bads.map I)),(13,I c.bads.length),(14,I (i:Int))],[],W gh vars cls c f rest⟩=some (.normal,bdSt gh vars cls c f rest t A (i+1)):=fun A=>by
   refine qc7_ ?_
   simp[qc7,e2,bdSt]
  rw[List.drop_eq_getElem_cons hlt]
  have hN:=jta c.bads[i] (IntKind.i64.wrap (t*f)) (W gh vars cls c f rest)
  generalize hxx:c.bads[i]=x at *
  by_cases h0:x=0
  ·subst h0
   have e1:(1∈(0:Int)::c.bads.drop (i+1))=(1∈c.bads.drop (i+1)):=by simp
   rw[e1,badL,if_pos rfl]
   have hb:qu pg (gh.length+1) 0 t (.sl true 1 (acc.map I)) (LI c.bads) c.bads.length i (W gh vars cls c f rest)=some (.normal,bdSt gh vars cls c f rest t acc (i+1)):=by
    have hk':=hk acc
    unfold bdSt at hk' ⊢
    generalize W gh vars cls c f rest=g0 at *
    simp[qu,hltI,hx,hk',-List.getElem?_map]
   exact⟨fun h1=>((hrec acc (by omega)).1 h1).imp fun sl hs=>jqw (qu_ hb) hs,fun h1=>jqw (qu_ hb) ((hrec acc (by omega)).2 h1)⟩
  ·by_cases h1:x=1
   ·subst h1
    refine⟨fun _=>⟨[(0,.ptr true (gh.length+1) 0),(1,I t),(4,.sl true 1 (acc.map I)),(6,I 1),(12,LI c.bads),(13,I c.bads.length),(14,I (i:Int)),(32,B true)],lp_ret (qu_ ?h3)⟩,fun h=>absurd (by simp) h⟩
    case h3=>
     generalize W gh vars cls c f rest=g0 at *
     simp[qu,hltI,hx,-List.getElem?_map]
   ·have e1:(1∈x::c.bads.drop (i+1))=(1∈c.bads.drop (i+1)):=by
     have:¬1=x:=fun e=>h1 e.symm
     simp[this]
    rw[e1,badL,if_neg h0]
    have hb:qu pg (gh.length+1) 0 t (.sl true 1 (acc.map I)) (LI c.bads) c.bads.length i (W gh vars cls c f rest)=some (.normal,bdSt gh vars cls c f rest t (acc++[numE x (IntKind.i64.wrap (t*f))]) (i+1)):=by
     have hk':=hk (acc++[numE x (IntKind.i64.wrap (t*f))])
     have hmx:(acc.length+1)*8≤maxBytes:=by omega
     unfold bdSt at hk' ⊢
     generalize W gh vars cls c f rest=g0 at *
     generalize numE x (IntKind.i64.wrap (t*f))=A at *
     rw[List.map_append] at hk' ⊢
     unfold uroO at hu
     simp only[List.map_cons,List.map_nil] at hk' ⊢
     simp[qu,hltI,hx,h0,h1,hu,hN,hmx,hk',-List.getElem?_map]
    have hr:=hrec (acc++[numE x (IntKind.i64.wrap (t*f))]) (by simp;omega)
    rw[List.append_assoc,List.cons_append,List.nil_append] at hr
    exact⟨fun h1=>(hr.1 h1).imp fun sl hs=>jqw (qu_ hb) hs,fun h1=>jqw (qu_ hb) (hr.2 h1)⟩
theorem bad_eq {cls:List (List Int)} (hl:c.bads.length≤1000000000) (hs:cls.length≤900000000):callL pg 293 [.ptr true (gh.length+1) 0,I t] (W gh vars cls c f rest)=some (.tup [],W gh vars (cls++badC (IntKind.i64.wrap (t*f)) c.bads) c f rest):=by
 have h:=jyq (gh:=gh) (rest:=rest) (vars:=vars) (f:=f) (t:=t) (cls:=cls) hl c.bads.length 0 [] (by omega) (by simp)
 have hu:=W_un (gh:=gh) (rest:=rest) (c:=c) (f:=f) (vars:=vars) (cls:=cls)
 rw[List.drop_zero,List.nil_append] at h
 unfold bdSt at h
 unfold badC
 simp only[Int.natCast_zero,LI,List.map_nil] at h
 by_cases h1:1∈c.bads
 ·rw[if_pos h1,List.append_nil]
  obtain⟨sl,hh⟩:=h.1 h1
  generalize W gh vars cls c f rest=g0 at *
  unfold uroO at hu
  have h1:=q7b_ (pg:=pg) (gh:=g0) (g0:=gh.length+1) (o0:=0) (x1:=t) (e:= .ret) (s:=⟨sl,[],g0⟩) (by
   simp[q7b,hu,hh])
  rw[jrm (fn:=q1t) rfl rfl h1]
  simp[finish,results,q1t,resOfs,resOk]
 ·rw[if_neg h1]
  have hh:=h.2 h1
  have ha:callL pg 91 [.ptr true gh.length 0,LI (badL (IntKind.i64.wrap (t*f)) c.bads)] (W gh vars cls c f rest)=some (.tup [],W gh vars (cls++[badL (IntKind.i64.wrap (t*f)) c.bads]) c f rest):=jre (by omega)
  simp only[LI] at ha
  generalize badL (IntKind.i64.wrap (t*f)) c.bads=L at *
  generalize W gh vars (cls++[L]) c f rest=g1 at *
  generalize W gh vars cls c f rest=g0 at *
  unfold uroO at hu
  have hk:=qc8_ (pg:=pg) (gh:=g0) (g0:=gh.length+1) (o0:=0) (v4:= .sl true 1 (L.map I)) (e:= .normal) (s:=⟨[],[],g1⟩) (by
   simp[qc8,hu,ha])
  have h1:=q7b_ (pg:=pg) (gh:=g0) (g0:=gh.length+1) (o0:=0) (x1:=t) (e:= .normal) (s:=⟨[],[],g1⟩) (by
   simp[q7b,hu,hh,hk])
  rw[jrm (fn:=q1t) rfl rfl h1]
  simp[finish,results,q1t,resOfs,resOk]
end
end Go.Lw
end

/-! Unrolling: Raw, and what Clauses answers. -/
section
namespace Go.Lw
open Go
def upto (g:Nat→List (List Int)):Nat→Nat→List (List Int)
 |_,0=>[]
 |i,k+1=>g i++upto g (i+1) k
theorem jrf {g:Nat→List (List Int)} {n:Nat} (h:∀i,(g i).length≤n):∀i k,(upto g i k).length≤n*k
 |_,0=>Nat.zero_le _
 |i,k+1=>by
  have:=h i
  have:=jrf h (i+1) k
  rw[upto,List.length_append,Nat.mul_succ];omega
theorem jtb {g:Nat→List (List Int)} (h:∀i,SL (g i)):∀i k,SL (upto g i k)
 |_,0=>fun l h=>by cases h
 |i,k+1=>jrr (h i) (jtb h (i+1) k)
def initC (f inp:Int) (begun:Bool):Nat→List Int→List (List Int)
 |_,[]=>[]
 |i,x::l=>(if begun=true∧0≤x then [[if x=1 then stE f inp 0 i else negI (stE f inp 0 i)]] else [])++initC f inp begun (i+1) l
theorem ju0 (f inp:Int) (begun:Bool):∀(i:Nat) (l:List Int),(initC f inp begun i l).length≤l.length
 |_,[]=>Nat.le_refl _
 |i,x::l=>by
  have:=ju0 f inp begun (i+1) l
  rw[initC,List.length_append,List.length_cons];split<;>simp<;>omega
theorem jyr (f inp:Int) (begun:Bool):∀(i:Nat) (l:List Int),SL (initC f inp begun i l)
 |_,[]=>fun l h=>by cases h
 |i,x::r=>by
  rw[initC]
  refine jrr (fun l h=>?_) (jyr f inp begun (i+1) r)
  split at h
  ·simp at h;subst h;simp
  ·cases h
def frE (c:Ci):Int:=IntKind.i64.wrap (c.ins+c.ands.length)
abbrev andsG (c:Ci) (f:Int) (t:Nat):List (List Int):=andsC c.ins (IntKind.i64.wrap ((t:Int)*f)) 0 c.ands
abbrev bindG (c:Ci) (f:Int) (t:Nat):List (List Int):=bindC f c.inp (t:Int) 0 c.nexts
abbrev holdG (c:Ci) (f:Int) (t:Nat):List (List Int):=rootsC (IntKind.i64.wrap ((t:Int)*f)) c.holds
def rawC (c:Ci) (f:Int) (N:Nat) (begun:Bool):List (List Int):=
 upto (andsG c f) 0 (N+1)++upto (bindG c f) 1 N++initC f c.inp begun 0 c.inits++upto (holdG c f) 0 (N+1)++badC (IntKind.i64.wrap ((N:Int)*f)) c.bads
structure CiT (c:Ci):Prop where
 inits:c.inits.length≤1048576
 nexts:c.nexts.length≤1048576
 bads:c.bads.length≤1048576
 holds:c.holds.length≤1048576
structure CiS (c:Ci):Prop extends CiT c where
 ands:c.ands.length≤1000000
section
variable {gh:List GObj} {c:Ci} {f vars:Int} {N:Nat} {begun:Bool}
def cC (c:Ci):List PV:=[I c.ins,.sl false 2 (c.ands.map andV),I c.inp,I c.st,LI c.inits,LI c.nexts,LI c.bads,LI c.holds]
theorem raw_l1 (hc:CiS c) (hN:N≤40):∀k i (cls:List (List Int)),i+k=N+1→cls.length+3000000*k≤800000000→
  runL pg q60 ⟨[(1,I (N:Int)),(2,B begun),(3,.ptr false 0 0),(7,.ptr true (gh.length+1) 0),(43,I ((N+1:Nat):Int)),(44,I (i:Int))],[cC c],W gh vars cls c f []⟩=
   some (.normal,⟨[(1,I (N:Int)),(2,B begun),(3,.ptr false 0 0),(7,.ptr true (gh.length+1) 0)],[cC c],W gh vars (cls++upto (andsG c f) i k) c f []⟩)
 |0,i,cls,h,_=>by
  have hlt:¬(i:Int)<((N+1:Nat):Int):=by omega
  refine (jqy (s1:=?s1) (q7d_ ?h1)).trans ?r1
  case h1=>simp only[q7d,decide_eq_false hlt,jr9];rfl
  case r1=>simp[keep,upto,stays,cC]
 | k+1,i,cls,h,hs=>by
  have hlt:(i:Int)<((N+1:Nat):Int):=by omega
  have e2:IntKind.i64.wrap ((i:Int)+1)=((i+1:Nat):Int):=by rw[jqv (by omega) (by omega)];omega
  have hu:=W_un (gh:=gh) (rest:=[]) (c:=c) (f:=f) (vars:=vars) (cls:=cls)
  have hA:callL pg 53 [.ptr true gh.length 0,graphV c.ins c.ands,I (IntKind.i64.wrap ((i:Int)*f))] (W gh vars cls c f [])=some (.tup [],W gh vars (cls++andsG c f i) c f []):=j156 hc.ands (by have:=hc.ands;omega)
  have hlen:(andsG c f i).length=3*c.ands.length:=jsk _ _ _ _
  have hrec:=raw_l1 hc hN k (i+1) (cls++andsG c f i) (by omega) (by have:=hc.ands;rw[List.length_append];omega)
  rw[upto,←List.append_assoc]
  refine jqw (q7d_ (s:=⟨[(1,I (N:Int)),(2,B begun),(3,.ptr false 0 0),(7,.ptr true (gh.length+1) 0),(43,I ((N+1:Nat):Int)),(44,I ((i+1:Nat):Int))],[cC c],W gh vars (cls++andsG c f i) c f []⟩) ?h2) hrec
  case h2=>
   generalize W gh vars (cls++andsG c f i) c f []=g1 at *
   generalize W gh vars cls c f []=g0 at *
   unfold uroO at hu
   unfold graphV at hA
   have hD:=decide_eq_true hlt
   simp only[q7d,hD,jry]
   simp[hu,hA,e2,cC]
theorem raw_l2 (hc:CiS c) (hN:N≤40):∀k i (cls:List (List Int)),i+k=N+1→cls.length+3000000*k≤800000000→
  runL pg q2v ⟨[(1,I (N:Int)),(2,B begun),(3,.ptr false 0 0),(7,.ptr true (gh.length+1) 0),(9,I (i:Int))],[cC c],W gh vars cls c f []⟩=
   some (.normal,⟨[(1,I (N:Int)),(2,B begun),(3,.ptr false 0 0),(7,.ptr true (gh.length+1) 0)],[cC c],W gh vars (cls++upto (bindG c f) i k) c f []⟩)
 |0,i,cls,h,_=>by
  have hlt:¬(i:Int)≤(N:Int):=by omega
  refine (jqy (s1:=?s1) (q7e_ ?h1)).trans ?r1
  case h1=>simp only[q7e,decide_eq_false hlt,jr9];rfl
  case r1=>simp[keep,upto,stays,cC]
 | k+1,i,cls,h,hs=>by
  have hlt:(i:Int)≤(N:Int):=by omega
  have e2:IntKind.i64.wrap ((i:Int)+1)=((i+1:Nat):Int):=by rw[jqv (by omega) (by omega)];omega
  have hA:callL pg 291 [.ptr true (gh.length+1) 0,I (i:Int)] (W gh vars cls c f [])=some (.tup [],W gh vars (cls++bindG c f i) c f []):=j158 (by have:=hc.nexts;omega) (by have:=hc.nexts;omega)
  have hlen:(bindG c f i).length≤2*c.nexts.length:=jsm _ _ _ _ _
  have hrec:=raw_l2 hc hN k (i+1) (cls++bindG c f i) (by omega) (by have:=hc.nexts;rw[List.length_append];omega)
  rw[upto,←List.append_assoc]
  refine jqw (q7e_ (s:=⟨[(1,I (N:Int)),(2,B begun),(3,.ptr false 0 0),(7,.ptr true (gh.length+1) 0),(9,I ((i+1:Nat):Int))],[cC c],W gh vars (cls++bindG c f i) c f []⟩) ?h2) hrec
  case h2=>
   generalize W gh vars (cls++bindG c f i) c f []=g1 at *
   generalize W gh vars cls c f []=g0 at *
   have hD:=decide_eq_true hlt
   simp only[q7e,hD,jry]
   simp[hA,e2,cC]
theorem raw_l3 (hc:CiS c):∀k i (cls:List (List Int)),i+k=c.inits.length→cls.length+k≤800000000→
  runL pg q61 ⟨[(1,I (N:Int)),(2,B begun),(3,.ptr false 0 0),(7,.ptr true (gh.length+1) 0),(70,LI c.inits),(71,I c.inits.length),(72,I (i:Int))],[cC c],W gh vars cls c f []⟩=
   some (.normal,⟨[(1,I (N:Int)),(3,.ptr false 0 0),(7,.ptr true (gh.length+1) 0)],[cC c],W gh vars (cls++initC f c.inp begun i (c.inits.drop i)) c f []⟩)
 |0,i,cls,h,_=>by
  have hlt:¬(i:Int)<(c.inits.length:Int):=by omega
  rw[List.drop_eq_nil_of_le (by omega)]
  refine (jqy (s1:=?s1) (q22_ ?h1)).trans ?r1
  case h1=>simp only[q22,decide_eq_false hlt,jr9];rfl
  case r1=>simp[keep,initC,stays,cC]
 | k +1,i,cls,h,hs=>by
  have hlt:i<c.inits.length:=by omega
  have hltI:(i:Int)<(c.inits.length:Int):=by omega
  have hli:=hc.inits
  have e2:IntKind.i64.wrap ((i:Int)+1)=((i+1:Nat):Int):=by rw[jqv (by omega) (by omega)];omega
  have hx:(c.inits.map I)[i]?=some (I c.inits[i]):=by simp[List.getElem?_eq_getElem hlt]
  have hu:=W_un (gh:=gh) (rest:=[]) (c:=c) (f:=f) (vars:=vars) (cls:=cls)
  rw[List.drop_eq_getElem_cons hlt,initC,←List.append_assoc]
  generalize c.inits[i]=x at *
  have hS:=jtz (so:=decide (x=1)) (t:=0) (i:=(i:Int)) hu
  have e1:(if decide (x=1)=true then stE f c.inp 0 i else negI (stE f c.inp 0 i))=if x=1 then stE f c.inp 0 i else negI (stE f c.inp 0 i):=by
   by_cases h:x=1<;>simp[h]
  rw[e1] at hS
  generalize (if x=1 then stE f c.inp 0 i else negI (stE f c.inp 0 i))=y at *
  have ha:callL pg 91 [.ptr true gh.length 0,LI [y]] (W gh vars cls c f [])=some (.tup [],W gh vars (cls++[[y]]) c f []):=jre (by omega)
  have hk:∀G:List GObj,runL pg q11 ⟨[(1,I (N:Int)),(2,B begun),(3,.ptr false 0 0),(7,.ptr true (gh.length+1) 0),(70,.sl false 1 (c.inits.map I)),(71,I c.inits.length),(72,I (i:Int))],[cC c],G⟩=some (.normal,⟨[(1,I (N:Int)),(2,B begun),(3,.ptr false 0 0),(7,.ptr true (gh.length+1) 0),(70,.sl false 1 (c.inits.map I)),(71,I c.inits.length),(72,I ((i+1:Nat):Int))],[cC c],G⟩):=fun G=>by
   refine qcb_ ?_
   simp[qcb,e2,cC]
  simp only[LI,List.map_cons,List.map_nil] at ha
  by_cases hb:begun=true∧0≤x
  ·rw[if_pos hb]
   have hrec:=raw_l3 hc k (i+1) (cls++[[y]]) (by omega) (by simp;omega)
   refine jqw (q22_ (s:=⟨[(1,I (N:Int)),(2,B begun),(3,.ptr false 0 0),(7,.ptr true (gh.length+1) 0),(70,LI c.inits),(71,I c.inits.length),(72,I ((i+1:Nat):Int))],[cC c],W gh vars (cls++[[y]]) c f []⟩) ?h2) hrec
   case h2=>
    obtain⟨rfl,h0⟩:=hb
    generalize W gh vars (cls++[[y]]) c f []=g1 at *
    generalize W gh vars cls c f []=g0 at *
    unfold uroO at hu
    unfold cC at hk ⊢
    simp[q22,hltI,hx,h0,hu,hS,ha,hk,show Nat.ble 1 1=true from rfl,-List.getElem?_map]
  ·rw[if_neg hb,List.append_nil]
   have hrec:=raw_l3 hc k (i+1) cls (by omega) (by omega)
   refine jqw (q22_ (s:=⟨[(1,I (N:Int)),(2,B begun),(3,.ptr false 0 0),(7,.ptr true (gh.length+1) 0),(70,LI c.inits),(71,I c.inits.length),(72,I ((i+1:Nat):Int))],[cC c],W gh vars cls c f []⟩) ?h3) hrec
   case h3=>
    generalize W gh vars cls c f []=g0 at *
    unfold cC at hk ⊢
    cases begun with
    |true=>
     have h0:¬0≤x:=fun h=>hb ⟨rfl,h⟩
     simp[q22,hltI,hx,h0,hk,show Nat.ble 1 1=true from rfl,-List.getElem?_map]
    |false=>simp[q22,hltI,hx,hk,show Nat.ble 1 1=true from rfl,-List.getElem?_map]
theorem raw_l5 (hc:CiS c) (hN:N≤40) {t:Nat}:∀k i (cls:List (List Int)),i+k=c.holds.length→cls.length+k≤800000000→
  runL pg q62 ⟨[(1,I (N:Int)),(3,.ptr false 0 0),(7,.ptr true (gh.length+1) 0),(12,I (t:Int)),(95,I ((N+1:Nat):Int)),(96,I (t:Int)),(100,LI c.holds),(101,I c.holds.length),(102,I (i:Int))],[cC c],W gh vars cls c f []⟩=
   some (.normal,⟨[(1,I (N:Int)),(3,.ptr false 0 0),(7,.ptr true (gh.length+1) 0),(95,I ((N+1:Nat):Int)),(96,I (t:Int))],[cC c],W gh vars (cls++rootsC (IntKind.i64.wrap ((t:Int)*f)) (c.holds.drop i)) c f []⟩)
 |0,i,cls,h,_=>by
  have hlt:¬(i:Int)<(c.holds.length:Int):=by omega
  rw[List.drop_eq_nil_of_le (by omega)]
  refine (jqy (s1:=?s1) (q7f_ ?h1)).trans ?r1
  case h1=>simp only[q7f,decide_eq_false hlt,jr9];rfl
  case r1=>simp[keep,rootsC,stays,cC]
 | k+1,i,cls,h,hs=>by
  have hlt:i<c.holds.length:=by omega
  have hltI:(i:Int)<(c.holds.length:Int):=by omega
  have hli:=hc.holds
  have e2:IntKind.i64.wrap ((i:Int)+1)=((i+1:Nat):Int):=by rw[jqv (by omega) (by omega)];omega
  have hx:(c.holds.map I)[i]?=some (I c.holds[i]):=by simp[List.getElem?_eq_getElem hlt]
  have hu:=W_un (gh:=gh) (rest:=[]) (c:=c) (f:=f) (vars:=vars) (cls:=cls)
  rw[List.drop_eq_getElem_cons hlt,rootsC,←List.append_assoc]
  generalize c.holds[i]=x at *
  have hm:callL pg 54 [.ptr true gh.length 0,I x,I (IntKind.i64.wrap ((t:Int)*f))] (W gh vars cls c f [])=some (.tup [],W gh vars (cls++mustC x (IntKind.i64.wrap ((t:Int)*f))) c f []):=jyl (by omega)
  have hml:=jvd x (IntKind.i64.wrap ((t:Int)*f))
  have hrec:=raw_l5 (t:=t) hc hN k (i+1) (cls++mustC x (IntKind.i64.wrap ((t:Int)*f))) (by omega) (by rw[List.length_append];omega)
  refine jqw (q7f_ (s:=⟨[(1,I (N:Int)),(3,.ptr false 0 0),(7,.ptr true (gh.length+1) 0),(12,I (t:Int)),(95,I ((N+1:Nat):Int)),(96,I (t:Int)),(100,LI c.holds),(101,I c.holds.length),(102,I ((i+1:Nat):Int))],[cC c],W gh vars (cls++mustC x (IntKind.i64.wrap ((t:Int)*f))) c f []⟩) ?h2) hrec
  case h2=>
   generalize W gh vars (cls++mustC x (IntKind.i64.wrap ((t:Int)*f))) c f []=g1 at *
   generalize W gh vars cls c f []=g0 at *
   unfold uroO at hu
   unfold cC
   simp[q7f,hltI,hx,hu,hm,e2,show Nat.ble 1 1=true from rfl,-List.getElem?_map]
theorem raw_l4 (hc:CiS c) (hN:N≤40):∀k i (cls:List (List Int)),i+k=N+1→cls.length+1048576*k≤800000000→
  runL pg q63 ⟨[(1,I (N:Int)),(3,.ptr false 0 0),(7,.ptr true (gh.length+1) 0),(95,I ((N+1:Nat):Int)),(96,I (i:Int))],[cC c],W gh vars cls c f []⟩=
   some (.normal,⟨[(1,I (N:Int)),(7,.ptr true (gh.length+1) 0)],[],W gh vars (cls++upto (holdG c f) i k) c f []⟩)
 |0,i,cls,h,_=>by
  have hlt:¬(i:Int)<((N+1:Nat):Int):=by omega
  refine (jqy (s1:=?s1) (q7g_ ?h1)).trans ?r1
  case h1=>simp only[q7g,decide_eq_false hlt,jr9];rfl
  case r1=>simp[keep,upto,stays,cC]
 | k+1,i,cls,h,hs=>by
  have hlt:(i:Int)<((N+1:Nat):Int):=by omega
  have hli:=hc.holds
  have e2:IntKind.i64.wrap ((i:Int)+1)=((i+1:Nat):Int):=by rw[jqv (by omega) (by omega)];omega
  have hin:=raw_l5 (gh:=gh) (vars:=vars) (f:=f) (N:=N) (t:=i) hc hN c.holds.length 0 cls (by omega) (by omega)
  have hlen:(holdG c f i).length≤c.holds.length:=jsl _ _
  have hrec:=raw_l4 hc hN k (i+1) (cls++holdG c f i) (by omega) (by rw[List.length_append];omega)
  have hk:∀G:List GObj,runL pg q2w ⟨[(1,I (N:Int)),(3,.ptr false 0 0),(7,.ptr true (gh.length+1) 0),(95,I ((N+1:Nat):Int)),(96,I (i:Int))],[cC c],G⟩=some (.normal,⟨[(1,I (N:Int)),(3,.ptr false 0 0),(7,.ptr true (gh.length+1) 0),(95,I ((N+1:Nat):Int)),(96,I ((i+1:Nat):Int))],[cC c],G⟩):=fun G=>by
   refine qcc_ ?_
   simp only[qcc,e2,cC]
  rw[upto,←List.append_assoc]
  rw[List.drop_zero] at hin
  refine jqw (q7g_ (s:=⟨[(1,I (N:Int)),(3,.ptr false 0 0),(7,.ptr true (gh.length+1) 0),(95,I ((N+1:Nat):Int)),(96,I ((i+1:Nat):Int))],[cC c],W gh vars (cls++holdG c f i) c f []⟩) ?h2) hrec
  case h2=>
   unfold holdG at *
   generalize W gh vars (cls++rootsC (IntKind.i64.wrap ((i:Int)*f)) c.holds) c f []=g1 at *
   generalize W gh vars cls c f []=g0 at *
   have hkk:=hk g1
   unfold cC at hin hkk ⊢
   simp only[Int.natCast_zero,LI] at hin hkk ⊢
   have hD:=decide_eq_true hlt
   generalize ((N+1:Nat):Int)=M at *
   simp[q7g,hD,hin,hkk,show Nat.ble 1 1=true from rfl]
theorem Raw_eq (hc:CiS c) (hN:N≤40):callL pg 276 [ciV c,I (N:Int),B begun] gh=some (.ptr true (gh.length+1) 0,W gh (IntKind.i64.wrap (frE c*((N+1:Nat):Int))) (rawC c (frE c) N begun) c (frE c) []):=by
 have e1:IntKind.i64.wrap ((N:Int)+1)=((N+1:Nat):Int):=by rw[jqv (by omega) (by omega)];omega
 generalize hv:IntKind.i64.wrap (frE c*((N+1:Nat):Int))=vars
 generalize hf:frE c=f at *
 have l1:=raw_l1 (gh:=gh) (vars:=vars) (f:=f) (begun:=begun) hc hN (N+1) 0 [] (by omega) (by simp;omega)
 have n1:(upto (andsG c f) 0 (N+1)).length≤3000000*(N+1):=jrf (fun i=>by have:=hc.ands;rw[jsk];omega) _ _
 rw[List.nil_append] at l1
 generalize h1:upto (andsG c f) 0 (N+1)=A1 at *
 have l2:=raw_l2 (gh:=gh) (vars:=vars) (f:=f) (begun:=begun) hc hN N 1 A1 (by omega) (by omega)
 have n2:(upto (bindG c f) 1 N).length≤2097152*N:=jrf (fun i=>by have:=hc.nexts;have:=jsm f c.inp i 0 c.nexts;show (bindC f c.inp i 0 c.nexts).length≤_;omega) _ _
 generalize h2:upto (bindG c f) 1 N=A2 at *
 have l3:=raw_l3 (gh:=gh) (vars:=vars) (f:=f) (begun:=begun) (N:=N) hc c.inits.length 0 (A1++A2) (by omega) (by have:=hc.inits;rw[List.length_append];omega)
 have n3:=ju0 f c.inp begun 0 c.inits
 rw[List.drop_zero] at l3
 generalize h3:initC f c.inp begun 0 c.inits=A3 at *
 have l4:=raw_l4 (gh:=gh) (vars:=vars) (f:=f) hc hN (N+1) 0 (A1++A2++A3) (by omega) (by have:=hc.inits;simp only[List.length_append];omega)
 have n4:(upto (holdG c f) 0 (N+1)).length≤1048576*(N+1):=jrf (fun i=>by have:=hc.holds;have:=jsl (IntKind.i64.wrap ((i:Int)*f)) c.holds;show (rootsC _ c.holds).length≤_;omega) _ _
 generalize h4:upto (holdG c f) 0 (N+1)=A4 at *
 have hb:=bad_eq (gh:=gh) (rest:=[]) (c:=c) (f:=f) (vars:=vars) (t:=(N:Int)) (cls:=A1++A2++A3++A4) (by have:=hc.bads;omega) (by have:=hc.inits;simp only[List.length_append];omega)
 have hR:rawC c f N begun=A1++A2++A3++A4++badC (IntKind.i64.wrap ((N:Int)*f)) c.bads:=by rw[rawC,h1,h2,h3,h4]
 rw[←hR] at hb
 generalize rawC c f N begun=R at *
 generalize ((N+1:Nat):Int)=M at *
 have hg0:W gh vars [] c f []=gh++[.cells [I vars,.sl true 1 []],uroO gh.length c f]:=rfl
 generalize hgR:W gh vars R c f []=gR at *
 have hlR:gR.take gh.length=gh:=by rw[←hgR];simp[W,mkR]
 generalize W gh vars (A1++A2++A3++A4) c f []=g4 at *
 generalize W gh vars (A1++A2++A3) c f []=g3 at *
 generalize W gh vars (A1++A2) c f []=g2 at *
 generalize W gh vars A1 c f []=g1 at *
 have k6:runL pg q2x ⟨[(1,I (N:Int)),(7,.ptr true (gh.length+1) 0)],[],g4⟩=some (.ret,⟨[(6,.ptr true (gh.length+1) 0)],[],gR⟩):=by
  refine qcd_ ?_
  simp[qcd,hb]
 have k4:runL pg q2y ⟨[(1,I (N:Int)),(3,.ptr false 0 0),(7,.ptr true (gh.length+1) 0)],[cC c],g3⟩=some (.ret,⟨[(6,.ptr true (gh.length+1) 0)],[],gR⟩):=by
  refine qce_ ?_
  unfold cC at l4
  simp only[Int.natCast_zero,LI] at l4
  simp only[qce,e1]
  simp[l4,k6]
 have k2:runL pg q2z ⟨[(1,I (N:Int)),(2,B begun),(3,.ptr false 0 0),(7,.ptr true (gh.length+1) 0)],[cC c],g2⟩=some (.ret,⟨[(6,.ptr true (gh.length+1) 0)],[],gR⟩):=by
  refine qcf_ ?_
  unfold cC at l3 k4
  simp only[Int.natCast_zero,LI] at l3 k4
  simp[qcf,l3,k4]
 have k1:runL pg q30 ⟨[(1,I (N:Int)),(2,B begun),(3,.ptr false 0 0),(7,.ptr true (gh.length+1) 0)],[cC c],g1⟩=some (.ret,⟨[(6,.ptr true (gh.length+1) 0)],[],gR⟩):=by
  refine qcg_ ?_
  unfold cC at l2 k2
  simp only[LI] at l2 k2
  have l2':runL pg q2v ⟨[(1,I (N:Int)),(2,B begun),(3,.ptr false 0 0),(7,.ptr true (gh.length+1) 0),(9,I 1)],[[I c.ins,.sl false 2 (c.ands.map andV),I c.inp,I c.st,.sl false 1 (c.inits.map I),.sl false 1 (c.nexts.map I),.sl false 1 (c.bads.map I),.sl false 1 (c.holds.map I)]],g1⟩=_:=l2
  simp[qcg,l2',k2]
 unfold cC at l1 k1
 rw[hg0] at l1
 unfold uroO at l1
 unfold frE at hf
 simp only[Int.natCast_zero,LI] at l1 k1
 refine jqs (fn:=q64) (s:=⟨[(6,.ptr true (gh.length+1) 0)],[],gR⟩) rfl rfl (qch_ ?h5) ?r5
 case h5=>
  simp only[qch,e1,hf]
  simp[e1,hf,hv,l1,k1,spliceAt]
 case r5=>simp[finish,results,q64,resOfs,resOf,resOk]
end
end Go.Lw
end

/-! Unrolling: what Clauses answers. -/
section
namespace Go.Lw
open Go
theorem unA8 {R:Type} (a b c d e f g h:PV) (k:PV→PV→PV→PV→PV→PV→PV→PV→Option R):unA 8 (.agg [a,b,c,d,e,f,g,h]) k=k a b c d e f g h:=rfl
theorem SL_raw {c:Ci} (hc:CiS c) (f:Int) (N:Nat) (begun:Bool):SL (rawC c f N begun):=by
 unfold rawC
 refine jrr (jrr (jrr (jrr (jtb (fun i=>jyi _ _ _ _) _ _) (jtb (fun i=>jyn _ _ _ _ _) _ _)) (jyr _ _ _ _ _)) (jtb (fun i=>jyj _ _) _ _)) ?_
 intro l h
 unfold badC at h
 split at h
 ·cases h
 ·rw[List.mem_singleton] at h;subst h
  have:=jyp (IntKind.i64.wrap ((N:Int)*f)) c.bads
  have:=hc.bads
  simp only[Sz];omega
def readyE (c:Ci) (steps:Int) (begun:Bool):Int:=
 if ciE c=0 then if steps<0 then 3 else if 40<steps then 3 else if begun=true∧c.inits.any (fun x=>decide (1<x))=true then 7 else 0 else ciE c
section
variable {gh:List GObj} {c:Ci} {begun:Bool}
theorem jys {l:List Int} (hl:l.length≤1048576):∀k i,i+k=l.length→
  runL pg q68 ⟨[(2,B begun),(22,LI l),(23,I l.length),(24,I (i:Int))],[],gh⟩=
   if begun=true∧(l.drop i).any (fun x=>decide (1<x))=true then some (.ret,⟨[(6,I 7)],[],gh⟩) else some (.normal,⟨[],[],gh⟩)
 |0,i,h=>by
  have hlt:¬(i:Int)<(l.length:Int):=by omega
  rw[List.drop_eq_nil_of_le (by omega),if_neg (by simp)]
  refine (jqy (s1:=?s1) (q23_ ?h1)).trans ?r1
  case h1=>simp only[q23,decide_eq_false hlt,jr9];rfl
  case r1=>simp[keep]
 | k +1,i,h=>by
  have hlt:i<l.length:=by omega
  have hltI:(i:Int)<(l.length:Int):=by omega
  have e2:IntKind.i64.wrap ((i:Int)+1)=((i+1:Nat):Int):=by rw[jqv (by omega) (by omega)];omega
  have hx:(l.map I)[i]?=some (I l[i]):=by simp[List.getElem?_eq_getElem hlt]
  have hrec:=jys hl k (i+1) (by omega)
  rw[List.drop_eq_getElem_cons hlt,List.any_cons]
  generalize l[i]=x at *
  have hex:(begun=true∧(decide (1<x))=true)∨¬(begun=true∧(decide (1<x))=true):=Classical.em _
  rcases hex with ⟨rfl,h1⟩|h1
  ·rw[if_pos ⟨rfl,by rw[h1];rfl⟩]
   have h1':1<x:=of_decide_eq_true h1
   refine lp_ret (q23_ ?h2)
   case h2=>simp[q23,hltI,hx,h1',-List.getElem?_map]
  ·have e3:(begun=true∧(decide (1<x)||(l.drop (i+1)).any fun x=>decide (1<x))=true)↔(begun=true∧(l.drop (i+1)).any (fun x=>decide (1<x))=true):=by
    constructor
    ·rintro⟨a,b⟩
     refine⟨a,?_⟩
     rcases Bool.or_eq_true_iff.1 b with b|b
     ·exact absurd ⟨a,b⟩ h1
     ·exact b
    ·rintro⟨a,b⟩;exact⟨a,by rw[b,Bool.or_true]⟩
   simp only[propext e3]
   refine jqw (s1:=⟨[(2,B begun),(22,LI l),(23,I l.length),(24,I ((i+1:Nat):Int))],[],gh⟩) (q23_ ?h3) hrec
   case h3=>
    cases begun with
    |true=>
     have h1':¬1<x:=fun h=>h1 ⟨rfl,decide_eq_true h⟩
     simp[q23,hltI,hx,h1',e2,-List.getElem?_map]
    |false=>simp[q23,hltI,hx,e2,-List.getElem?_map]
theorem bulk8 (hc:CiT c):(c.inits.length+c.nexts.length+c.bads.length+c.holds.length)*8≤maxBytes:=by
 have:maxBytes=140737488355328:=rfl
 have:=hc.inits;have:=hc.nexts;have:=hc.bads;have:=hc.holds
 omega
theorem j159 {steps:Int} (hr:RA c.ands) (hc:CiT c):callL pg 336 [ciV c,I steps,B begun] gh=some (I (readyE c steps begun),gh):=by
 have hC:=j14z (gh:=gh) c hr (bulk8 hc)
 have hl:=jys (begun:=begun) (gh:=gh) hc.inits c.inits.length 0 (by omega)
 rw[List.drop_zero] at hl
 unfold readyE
 generalize ciE c=e at *
 have fin:∀(e:Int) (s:St),s=⟨[(6,I e)],[],gh⟩→runL pg q6a ⟨[(0,ciV c),(1,I steps),(2,B begun)],[],gh⟩=some (.ret,s)→callL pg 336 [ciV c,I steps,B begun] gh=some (I e,gh):=by
  intro e s hs hrun
  subst hs
  refine jqs (fn:=q6b) rfl rfl hrun ?_
  simp[finish,results,q6b,resOfs,resOf,resOk,get]
 simp only[ciV,LI,Int.natCast_zero] at hC hl fin ⊢
 have hLl:(c.inits.map I).length=c.inits.length:=List.length_map _
 generalize hGa:c.ands.map andV=Ga at *
 generalize hGi:c.inits.map I=Gi at *
 generalize hGn:c.nexts.map I=Gn at *
 generalize hGb:c.bads.map I=Gb at *
 generalize hGh:c.holds.map I=Gh at *
 by_cases he:e=0
 ·rw[if_pos he]
  subst he
  by_cases h1:steps<0
  ·rw[if_pos h1]
   refine fin 3 _ rfl (q14_ ?h1)
   case h1=>simp[q14,hC,h1]
  rw[if_neg h1]
  by_cases h2:40<steps
  ·rw[if_pos h2]
   refine fin 3 _ rfl (q14_ ?h2)
   case h2=>simp[q14,hC,h1,h2]
  rw[if_neg h2]
  by_cases h3:begun=true∧c.inits.any (fun x=>decide (1<x))=true
  ·rw[if_pos h3] at hl ⊢
   refine fin 7 _ rfl (q14_ ?h3)
   case h3=>simp[q14,hC,h1,h2,hl,hLl]
  ·rw[if_neg h3] at hl ⊢
   have hk:=qqc_ (pg:=pg) (gh:=gh) (e:= .ret) (s:=⟨[(6,I 0)],[],gh⟩) rfl
   refine fin 0 _ rfl (q14_ ?h4)
   case h4=>simp[q14,hC,h1,h2,hl,hLl,hk]
 ·rw[if_neg he]
  refine fin e _ rfl (q14_ ?h5)
  case h5=>simp[q14,hC,he]
def limE (c:Ci) (N:Nat) (vars:Int) (cls:List (List Int)):PV:=
 if 200000<IntKind.i64.wrap (frE c*((N+1:Nat):Int)) then .tup [clV 0 [],I 3] else doneE vars cls
theorem j15a {N fid:Nat} {caps:List PV} {vars:Int} {cls:List (List Int)} (hN:N≤40) (hcap:caps.all argOk=true) (hs:SL cls)
  (hf:callL pg fid caps gh=some (clV vars cls,gh)):callL pg 265 [ciV c,I (N:Int),.fn fid caps] gh=some (limE c N vars cls,gh):=by
 have e1:IntKind.i64.wrap ((N:Int)+1)=((N+1:Nat):Int):=by rw[jqv (by omega) (by omega)];omega
 unfold limE frE
 generalize ((N+1:Nat):Int)=M at *
 have hLl:(c.ands.map andV).length=c.ands.length:=List.length_map _
 simp only[ciV,LI]
 generalize hGa:c.ands.map andV=Ga at *
 generalize hGi:c.inits.map I=Gi at *
 generalize hGn:c.nexts.map I=Gn at *
 generalize hGb:c.bads.map I=Gb at *
 generalize hGh:c.holds.map I=Gh at *
 by_cases hb:200000<IntKind.i64.wrap (IntKind.i64.wrap (c.ins+c.ands.length)*M)
 ·rw[if_pos hb]
  refine jqs (fn:=q1p) (s:=?s1) rfl rfl (q7h_ ?h1) ?r1
  case h1=>simp[q7h,hLl,e1,hb];rfl
  case r1=>simp[finish,results,q1p,resOfs,resOf,St.cellsAt,resOk,clV]
 ·rw[if_neg hb]
  have hD:=j153 (gh:=gh) (vars:=vars) hs
  obtain⟨n,cl,e,ho⟩:=jyk (vars:=vars) (cls:=cls)
  rw[ho] at hD ⊢
  have hn:=jrq cl
  have hn2:=jrq cls
  unfold clV at hD hf ⊢
  generalize (cl.map fun l=>LI l)=L at *
  generalize (cls.map fun l=>LI l)=L2 at *
  refine jqs (fn:=q1p) (s:=?s2) rfl rfl (q7h_ ?h2) ?r2
  case h2=>simp[q7h,hLl,e1,hb,jv8 hcap,hf,hD];rfl
  case r2=>simp[finish,results,q1p,resOfs,resOf,St.cellsAt,resOk,hn]
theorem jyt {steps:Int} (h:readyE c steps begun=0):ciE c=0∧∃N:Nat,N≤40∧steps=(N:Int):=by
 unfold readyE at h
 split at h
 ·rename_i h0
  refine⟨h0,?_⟩
  split at h
  ·cases h
  ·split at h
   ·cases h
   ·exact⟨steps.toNat,by omega,by omega⟩
 ·rename_i h0;exact absurd h h0
theorem j15b (c:Ci) (N:Nat) (vars:Int) (cls:List (List Int)):∃(n:Int) (l:List (List Int)) (e:Int),limE c N vars cls= .tup [clV n l,I e]:=by
 unfold limE;split
 ·exact⟨_,_,_,rfl⟩
 ·exact jyk
theorem CiS_of (hc:CiT c) (h:ciE c=0):CiS c:=by
 refine⟨hc,?_⟩
 unfold ciE at h
 split at h
 ·rename_i h0;exact (jtw h0).2.1
 ·rename_i h0;exact absurd h h0
theorem jvf (hc:CiS c) {N:Nat} (hN:N≤40) (f:Int):(rawC c f N begun).length≤800000000:=by
 have n1:(upto (andsG c f) 0 (N+1)).length≤3000000*(N+1):=jrf (fun i=>by have:=hc.ands;rw[jsk];omega) _ _
 have n2:(upto (bindG c f) 1 N).length≤2097152*N:=jrf (fun i=>by have:=hc.nexts;have:=jsm f c.inp i 0 c.nexts;show (bindC f c.inp i 0 c.nexts).length≤_;omega) _ _
 have n3:=ju0 f c.inp begun 0 c.inits
 have n4:(upto (holdG c f) 0 (N+1)).length≤1048576*(N+1):=jrf (fun i=>by have:=hc.holds;have:=jsl (IntKind.i64.wrap ((i:Int)*f)) c.holds;show (rootsC _ c.holds).length≤_;omega) _ _
 have n5:(badC (IntKind.i64.wrap ((N:Int)*f)) c.bads).length≤1:=by unfold badC;split<;>simp
 have:=hc.inits
 unfold rawC
 simp only[List.length_append]
 omega
end
end Go.Lw
end

/-! Proving by steps: what is good, what differs, and all clauses of steps that differ. -/
section
namespace Go.Lw
open Go
theorem j15c (n:Int):IntKind.i64.wrap (-IntKind.i64.wrap n)=IntKind.i64.wrap (-n):=by
 simp only[IntKind.wrap,IntKind.bits,IntKind.signed]
 simp
 omega
theorem j15d (n:Int):IntKind.i64.wrap (IntKind.i64.wrap n)=IntKind.i64.wrap n:=by
 simp only[IntKind.wrap,IntKind.bits,IntKind.signed]
 simp
 omega
def good1 (more x:Int):List (List Int):=if x=0 then [] else if x=1 then [[]] else [[negI (numE x more)]]
def goodC (more:Int):List Int→List (List Int)
 |[]=>[]
 |x::l=>good1 more x++goodC more l
theorem jvg (more x:Int):(good1 more x).length≤1:=by
 unfold good1
 split
 ·simp
 ·split<;>simp
theorem jsn (more:Int):∀l:List Int,(goodC more l).length≤l.length
 |[]=>Nat.le_refl _
 |x::l=>by
  have:=jvg more x
  have:=jsn more l
  rw[goodC,List.length_append,List.length_cons];omega
theorem jyu (more:Int):∀l:List Int,SL (goodC more l)
 |[]=>fun l h=>by cases h
 |x::r=>by
  rw[goodC]
  refine jrr (fun l h=>?_) (jyu more r)
  unfold good1 at h
  split at h
  ·cases h
  ·split at h<;>simp at h<;>subst h<;>simp
theorem j15e (n:Nat) (h:n<1099511627776):iXor .i64 (n:Int) 1=if n%2=0 then (n:Int)+1 else (n:Int)-1:=by
 by_cases h2:n%2=0
 ·rw[if_pos h2]
  exact (iXor1 (A:=n) (B:=n+1) h).2 ⟨by omega,by omega⟩
 ·rw[if_neg h2]
  have:=(iXor1 (A:=n) (B:=n-1) h).2 ⟨by omega,by omega⟩
  rw[this];omega
theorem j15f {x more:Int} (h0:0≤x) (h1:x<1099511627776):mustC (iXor .i64 x 1) more=good1 more x:=by
 obtain⟨n,rfl⟩:=Int.eq_ofNat_of_zero_le h0
 have hn:n<1099511627776:=by omega
 rw[j15e n hn]
 unfold good1 mustC
 by_cases h2:n%2=0
 ·rw[if_pos h2]
  by_cases hz:n=0
  ·subst hz;rfl
  ·rw[if_neg (by omega),if_neg (by omega),if_neg (by omega),if_neg (by omega)]
   unfold negI numE
   have e1:Int.tmod ((n:Int)+1) 2=1:=by rw[Int.tmod_eq_emod_of_nonneg (by omega)];omega
   have e2:¬Int.tmod (n:Int) 2=1:=by rw[Int.tmod_eq_emod_of_nonneg (by omega)];omega
   have e3:Int.tdiv ((n:Int)+1) 2=Int.tdiv (n:Int) 2:=by rw[Int.tdiv_eq_ediv_of_nonneg (by omega),Int.tdiv_eq_ediv_of_nonneg (by omega)];omega
   rw[if_pos e1,if_neg e2,e3]
 ·rw[if_neg h2]
  by_cases hz:n=1
  ·subst hz;rfl
  ·rw[if_neg (by omega),if_neg (by omega),if_neg (by omega),if_neg (by omega)]
   unfold negI numE
   have e1:¬Int.tmod ((n:Int)-1) 2=1:=by rw[Int.tmod_eq_emod_of_nonneg (by omega)];omega
   have e2:Int.tmod (n:Int) 2=1:=by rw[Int.tmod_eq_emod_of_nonneg (by omega)];omega
   have e3:Int.tdiv ((n:Int)-1) 2=Int.tdiv (n:Int) 2:=by rw[Int.tdiv_eq_ediv_of_nonneg (by omega),Int.tdiv_eq_ediv_of_nonneg (by omega)];omega
   rw[if_neg e1,if_pos e2,e3,j15c,Int.neg_neg,j15d]
def w1 (v:Int):Int:=IntKind.i64.wrap (v+1)
def diffC (f inp t u:Int):Nat→Nat→Int→List (List Int)
 |_,0,_=>[]
 |i,k+1,v=>[negI (w1 v),stE f inp t i,stE f inp u i]::[negI (w1 v),negI (stE f inp t i),negI (stE f inp u i)]::diffC f inp t u (i+1) k (w1 v)
def diffL:Nat→Int→List Int
 |0,_=>[]
 |k+1,v=>w1 v::diffL k (w1 v)
def diffV:Nat→Int→Int
 |0,v=>v
 |k+1,v=>diffV k (w1 v)
theorem ju1 (f inp t u:Int):∀i k v,(diffC f inp t u i k v).length=2*k
 |_,0,_=>rfl
 |i,k+1,v=>by rw[diffC,List.length_cons,List.length_cons,ju1 f inp t u (i+1) k];omega
theorem jyv:∀k v,(diffL k v).length=k
 |0,_=>rfl
 |k+1,v=>by rw[diffL,List.length_cons,jyv k]
theorem jyw (f inp t u:Int):∀i k v,SL (diffC f inp t u i k v)
 |_,0,_=>fun l h=>by cases h
 | i,k+1,v=>fun l h=>by
  rw[diffC] at h
  rcases List.mem_cons.1 h with rfl|h
  ·simp
  ·rcases List.mem_cons.1 h with rfl|h
   ·simp
   ·exact jyw f inp t u (i+1) k (w1 v) l h
def difS (f inp:Int) (st:Nat) (t u:Int) (s:Int×List (List Int)):Int×List (List Int):=(diffV st s.1,s.2++(diffC f inp t u 0 st s.1++[diffL st s.1]))
def rowS (f inp:Int) (st:Nat) (t:Int):Nat→Nat→Int×List (List Int)→Int×List (List Int)
 |_,0,s=>s
 |u,k+1,s=>rowS f inp st t (u+1) k (difS f inp st t (u:Int) s)
def allS (f inp:Int) (st N:Nat):Nat→Nat→Int×List (List Int)→Int×List (List Int)
 |_,0,s=>s
 |t,k+1,s=>allS f inp st N (t+1) k (rowS f inp st (t:Int) (t+1) (N-t) s)
theorem jvh {f inp:Int} {st:Nat} {t u:Int} {s:Int×List (List Int)}:(difS f inp st t u s).2.length=s.2.length+(2*st+1):=by
 unfold difS;simp only[List.length_append,ju1,List.length_cons,List.length_nil]
theorem j15g {f inp:Int} {st:Nat} {t u:Int} {s:Int×List (List Int)} (hst:st≤1048576) (h:SL s.2):SL (difS f inp st t u s).2:=by
 unfold difS
 refine jrr h (jrr (jyw _ _ _ _ _ _ _) fun l h=>?_)
 rw[List.mem_singleton] at h;subst h
 rw[jyv];simp only[Sz];omega
theorem ju2 {f inp:Int} {st:Nat} {t:Int}:∀u k s,(rowS f inp st t u k s).2.length=s.2.length+(2*st+1)*k
 |_,0,_=>rfl
 |u,k+1,s=>by rw[rowS,ju2 (u+1) k,jvh,Nat.mul_succ];omega
theorem jyx {f inp:Int} {st:Nat} {t:Int} (hst:st≤1048576):∀u k s,SL s.2→SL (rowS f inp st t u k s).2
 |_,0,_,h=>h
 |u,k+1,s,h=>by rw[rowS];exact jyx hst (u+1) k _ (j15g hst h)
theorem jyy {f inp:Int} {st N:Nat} (hN:N≤40) (hst:st≤1048576):∀t k s,(allS f inp st N t k s).2.length≤s.2.length+84000000*k
 |_,0,_=>Nat.le_refl _
 |t,k+1,s=>by
  have h:=jyy (f:=f) (inp:=inp) hN hst (t+1) k (rowS f inp st (t:Int) (t+1) (N-t) s)
  have h2:=ju2 (f:=f) (inp:=inp) (st:=st) (t:=(t:Int)) (t+1) (N-t) s
  have h3:(2*st+1)*(N-t)≤2097153*40:=Nat.mul_le_mul (by omega) (by omega)
  rw[allS];omega
theorem jyz {f inp:Int} {st N:Nat} (hst:st≤1048576):∀t k s,SL s.2→SL (allS f inp st N t k s).2
 |_,0,_,h=>h
 |t,k+1,s,h=>by rw[allS];exact jyz hst (t+1) k _ (jyx hst _ _ _ h)
def prO (m:Nat) (c:Ci):GObj:= .cells [.ptr true (m+1) 0,I c.ins,.sl false 2 (c.ands.map andV),I c.inp,I c.st,LI c.inits,LI c.nexts,LI c.bads,LI c.holds]
section
variable {gh:List GObj} {c:Ci} {f vars:Int} {N:Nat}
def P (gh:List GObj) (vars:Int) (cls:List (List Int)) (c:Ci) (f:Int):List GObj:=W gh vars cls c f [prO gh.length c]
theorem P_un {cls:List (List Int)}:(P gh vars cls c f)[gh.length+1]?=some (uroO gh.length c f):=W_un
theorem P_pr {cls:List (List Int)}:(P gh vars cls c f)[gh.length+2]?=some (prO gh.length c):=by simp[P,W,mkR]
theorem P_mk {cls:List (List Int)}:(P gh vars cls c f)[gh.length]?=some (.cells [I vars,.sl true 1 (cls.map fun l=>LI l)]):=j154
theorem P_set {cls:List (List Int)} {v:Int}:(P gh vars cls c f).set gh.length (.cells [I v,.sl true 1 (cls.map fun l=>LI l)])=P gh v cls c f:=by simp[P,W,mkR]
theorem jz0 {t:Int} (hl:c.bads.length≤1048576) (hb:∀x∈c.bads,0≤x∧x<1099511627776):∀k i (cls:List (List Int)),i+k=c.bads.length→cls.length+k≤900000000→
  runL pg q4l ⟨[(0,.ptr true (gh.length+2) 0),(1,I t),(10,LI c.bads),(11,I c.bads.length),(12,I (i:Int))],[],P gh vars cls c f⟩=
   some (.normal,⟨[],[],P gh vars (cls++goodC (IntKind.i64.wrap (t*f)) (c.bads.drop i)) c f⟩)
 |0,i,cls,h,_=>by
  have hlt:¬(i:Int)<(c.bads.length:Int):=by omega
  rw[List.drop_eq_nil_of_le (by omega)]
  refine (jqy (s1:=?s1) (q7j_ ?h1)).trans ?r1
  case h1=>simp only[q7j,decide_eq_false hlt,jr9];rfl
  case r1=>simp[keep,goodC]
 | k+1,i,cls,h,hs=>by
  have hlt:i<c.bads.length:=by omega
  have hltI:(i:Int)<(c.bads.length:Int):=by omega
  have e2:IntKind.i64.wrap ((i:Int)+1)=((i+1:Nat):Int):=by rw[jqv (by omega) (by omega)];omega
  have hx:(c.bads.map I)[i]?=some (I c.bads[i]):=by simp[List.getElem?_eq_getElem hlt]
  have hb1:=hb _ (List.getElem_mem hlt)
  have hu:=P_un (gh:=gh) (c:=c) (f:=f) (vars:=vars) (cls:=cls)
  have hp:=P_pr (gh:=gh) (c:=c) (f:=f) (vars:=vars) (cls:=cls)
  rw[List.drop_eq_getElem_cons hlt,goodC,←List.append_assoc]
  generalize c.bads[i]=x at *
  have hm:callL pg 54 [.ptr true gh.length 0,I (iXor .i64 x 1),I (IntKind.i64.wrap (t*f))] (P gh vars cls c f)=some (.tup [],P gh vars (cls++mustC (iXor .i64 x 1) (IntKind.i64.wrap (t*f))) c f):=jyl (by omega)
  rw[j15f hb1.1 hb1.2] at hm
  have hml:=jvg (IntKind.i64.wrap (t*f)) x
  have hrec:=jz0 (t:=t) hl hb k (i+1) (cls++good1 (IntKind.i64.wrap (t*f)) x) (by omega) (by rw[List.length_append];omega)
  refine jqw (q7j_ (s:=⟨[(0,.ptr true (gh.length+2) 0),(1,I t),(10,LI c.bads),(11,I c.bads.length),(12,I ((i+1:Nat):Int))],[],P gh vars (cls++good1 (IntKind.i64.wrap (t*f)) x) c f⟩) ?h2) hrec
  case h2=>
   generalize P gh vars (cls++good1 (IntKind.i64.wrap (t*f)) x) c f=g1 at *
   generalize P gh vars cls c f=g0 at *
   unfold uroO at hu
   unfold prO at hp
   simp[q7j,hltI,hx,hu,hp,hm,e2,-List.getElem?_map]
theorem j15h {t:Int} {cls:List (List Int)} (hl:c.bads.length≤1048576) (hb:∀x∈c.bads,0≤x∧x<1099511627776) (hs:cls.length+c.bads.length≤900000000) :
  callL pg 277 [.ptr true (gh.length+2) 0,I t] (P gh vars cls c f)=some (.tup [],P gh vars (cls++goodC (IntKind.i64.wrap (t*f)) c.bads) c f):=by
 have h:=jz0 (gh:=gh) (vars:=vars) (f:=f) (t:=t) hl hb c.bads.length 0 cls (by omega) hs
 have hp:=P_pr (gh:=gh) (c:=c) (f:=f) (vars:=vars) (cls:=cls)
 rw[List.drop_zero] at h
 simp only[Int.natCast_zero,LI] at h
 generalize P gh vars (cls++goodC (IntKind.i64.wrap (t*f)) c.bads) c f=g1 at *
 generalize P gh vars cls c f=g0 at *
 unfold prO at hp
 have h1:=qcj_ (pg:=pg) (gh:=g0) (g0:=gh.length+2) (o0:=0) (x1:=t) (e:= .normal) (s:=⟨[],[],g1⟩) (by
  simp[qcj,hp,h])
 rw[jrm (fn:=q4m) rfl rfl h1]
 simp[finish,results,q4m,resOfs,resOk]
theorem jz1 {t u:Int} {st:Nat} (hst:c.st=(st:Int)) (hl:st≤1048576):∀k i (cls:List (List Int)) (v:Int) (acc:List Int),i+k=st→cls.length+2*k≤6000000000→acc.length≤i→
  runL pg q4n ⟨[(0,.ptr true (gh.length+2) 0),(1,I t),(2,I u),(6,.sl true 1 (acc.map I)),(16,I (st:Int)),(17,I (i:Int))],[],P gh v cls c f⟩=
   some (.normal,⟨[(0,.ptr true (gh.length+2) 0),(6,.sl true 1 ((acc++diffL k v).map I))],[],P gh (diffV k v) (cls++diffC f c.inp t u i k v) c f⟩)
 |0,i,cls,v,acc,h,_,_=>by
  have hlt:¬(i:Int)<(st:Int):=by omega
  refine (jqy (s1:=?s1) (q7l_ ?h1)).trans ?r1
  case h1=>simp only[q7l,decide_eq_false hlt,jr9];rfl
  case r1=>simp[keep,diffC,diffL,diffV]
 | k+1,i,cls,v,acc,h,hs,ha=>by
  have hm8:maxBytes=140737488355328:=rfl
  have hltI:(i:Int)<(st:Int):=by omega
  have e2:IntKind.i64.wrap ((i:Int)+1)=((i+1:Nat):Int):=by rw[jqv (by omega) (by omega)];omega
  have hrec:=jz1 (t:=t) (u:=u) hst hl k (i+1) (cls++[[negI (w1 v),stE f c.inp t i,stE f c.inp u i],[negI (w1 v),negI (stE f c.inp t i),negI (stE f c.inp u i)]]) (w1 v) (acc++[w1 v]) (by omega) (by simp;omega) (by simp;omega)
  rw[List.append_assoc,List.append_assoc,List.cons_append,List.cons_append,List.cons_append,List.nil_append,List.nil_append] at hrec
  rw[diffC,diffL,diffV]
  refine jqw (q7l_ (s:=⟨[(0,.ptr true (gh.length+2) 0),(1,I t),(2,I u),(6,.sl true 1 ((acc++[w1 v]).map I)),(16,I (st:Int)),(17,I ((i+1:Nat):Int))],[],P gh (w1 v) (cls++[[negI (w1 v),stE f c.inp t i,stE f c.inp u i],[negI (w1 v),negI (stE f c.inp t i),negI (stE f c.inp u i)]]) c f⟩) ?h2) hrec
  case h2=>
   have hu0:=P_un (gh:=gh) (c:=c) (f:=f) (vars:=v) (cls:=cls)
   have hp0:=P_pr (gh:=gh) (c:=c) (f:=f) (vars:=v) (cls:=cls)
   have hm0:=P_mk (gh:=gh) (c:=c) (f:=f) (vars:=v) (cls:=cls)
   have hw0:=P_set (gh:=gh) (c:=c) (f:=f) (vars:=v) (cls:=cls) (v:=w1 v)
   have hu1:=P_un (gh:=gh) (c:=c) (f:=f) (vars:=w1 v) (cls:=cls)
   have hp1:=P_pr (gh:=gh) (c:=c) (f:=f) (vars:=w1 v) (cls:=cls)
   have hm1:=P_mk (gh:=gh) (c:=c) (f:=f) (vars:=w1 v) (cls:=cls)
   have hS1:=jtz (so:=true) (t:=t) (i:=(i:Int)) hu1
   have hS2:=jtz (so:=true) (t:=u) (i:=(i:Int)) hu1
   simp only[if_true] at hS1 hS2
   generalize stE f c.inp t i=a at *
   generalize stE f c.inp u i=b at *
   have hmx:(acc.length+1)*8≤maxBytes:=by omega
   have ha1:callL pg 91 [.ptr true gh.length 0,LI [negI (w1 v),a,b]] (P gh (w1 v) cls c f)=some (.tup [],P gh (w1 v) (cls++[[negI (w1 v),a,b]]) c f):=jre (by omega)
   have ha2:callL pg 91 [.ptr true gh.length 0,LI [negI (w1 v),negI a,negI b]] (P gh (w1 v) (cls++[[negI (w1 v),a,b]]) c f)=some (.tup [],P gh (w1 v) (cls++[[negI (w1 v),a,b]]++[[negI (w1 v),negI a,negI b]]) c f):=jre (by simp;omega)
   have hu2:=P_un (gh:=gh) (c:=c) (f:=f) (vars:=w1 v) (cls:=cls++[[negI (w1 v),a,b]])
   have hp2:=P_pr (gh:=gh) (c:=c) (f:=f) (vars:=w1 v) (cls:=cls++[[negI (w1 v),a,b]])
   rw[List.append_assoc] at ha2
   rw[List.map_append]
   simp only[LI,List.map_cons,List.map_nil,List.cons_append,List.nil_append] at ha1 ha2 hm0 hm1 hw0 ⊢
   generalize P gh (w1 v) (cls++[[negI (w1 v),a,b],[negI (w1 v),negI a,negI b]]) c f=g3 at *
   generalize P gh (w1 v) (cls++[[negI (w1 v),a,b]]) c f=g2 at *
   generalize P gh (w1 v) cls c f=g1 at *
   generalize P gh v cls c f=g0 at *
   generalize (cls.map fun l=>PV.sl false 1 (l.map I))=C at *
   unfold uroO at hu0 hu1 hu2
   unfold prO at hp0 hp1 hp2
   unfold negI at ha1 ha2
   unfold w1 at *
   simp[q7l,hltI,hu0,hu1,hu2,hp0,hp1,hp2,hm0,hm1,hw0,hS1,hS2,ha1,ha2,hmx,e2,spliceAt]
theorem j15i {t u:Int} {st:Nat} {cls:List (List Int)} {v:Int} (hst:c.st=(st:Int)) (hl:st≤1048576) (hs:cls.length+2*st≤6000000000) :
  callL pg 278 [.ptr true (gh.length+2) 0,I t,I u] (P gh v cls c f)=some (.tup [],P gh (difS f c.inp st t u (v,cls)).1 (difS f c.inp st t u (v,cls)).2 c f):=by
 have h:=jz1 (gh:=gh) (f:=f) (t:=t) (u:=u) hst hl st 0 cls v [] (by omega) hs (by simp)
 have hp:=P_pr (gh:=gh) (c:=c) (f:=f) (vars:=v) (cls:=cls)
 have hu1:=P_un (gh:=gh) (c:=c) (f:=f) (vars:=diffV st v) (cls:=cls++diffC f c.inp t u 0 st v)
 have hp1:=P_pr (gh:=gh) (c:=c) (f:=f) (vars:=diffV st v) (cls:=cls++diffC f c.inp t u 0 st v)
 have ha:callL pg 91 [.ptr true gh.length 0,LI (diffL st v)] (P gh (diffV st v) (cls++diffC f c.inp t u 0 st v) c f)=some (.tup [],P gh (diffV st v) (cls++diffC f c.inp t u 0 st v++[diffL st v]) c f):=jre (by rw[List.length_append,ju1];omega)
 unfold difS
 simp only
 rw[List.append_assoc] at ha
 rw[List.nil_append] at h
 simp only[Int.natCast_zero,LI,List.map_nil] at h ha
 generalize P gh (diffV st v) (cls++(diffC f c.inp t u 0 st v++[diffL st v])) c f=g2 at *
 generalize P gh (diffV st v) (cls++diffC f c.inp t u 0 st v) c f=g1 at *
 generalize P gh v cls c f=g0 at *
 generalize (diffL st v).map I=L at *
 unfold prO at hp hp1
 unfold uroO at hu1
 rw[hst] at hp hp1
 have hk:runL pg q2g ⟨[(0,.ptr true (gh.length+2) 0),(6,.sl true 1 L)],[],g1⟩=some (.normal,⟨[],[],g2⟩):=by
  refine qck_ ?_
  simp[qck,hp1,hu1,ha]
 have h1:=qcl_ (pg:=pg) (gh:=g0) (g0:=gh.length+2) (o0:=0) (x1:=t) (x2:=u) (e:= .normal) (s:=⟨[],[],g2⟩) (by
  simp[qcl,hp,h,hk])
 rw[jrm (fn:=q4o) rfl rfl h1]
 simp[finish,results,q4o,resOfs,resOk]
abbrev goodG (c:Ci) (f:Int) (t:Nat):List (List Int):=goodC (IntKind.i64.wrap ((t:Int)*f)) c.bads
def difR (c:Ci) (f vars:Int) (N st:Nat):Int×List (List Int):=allS f c.inp st N 0 (N+1) (vars,rawC c f N false++upto (goodG c f) 0 N)
abbrev pbx (c:Ci):List (List PV):=[cC c,[I 0,.sl true 1 []]]
theorem jz2 (hc:CiS c) (hN:N≤40) (hb:∀x∈c.bads,0≤x∧x<1099511627776):∀k i (cls:List (List Int)),i+k=N→cls.length+1048576*k≤850000000→
  runL pg q4h ⟨[(1,I (N:Int)),(4,.ptr false 1 0),(5,.ptr true (gh.length+2) 0),(15,I (N:Int)),(16,I (i:Int))],pbx c,P gh vars cls c f⟩=
   some (.normal,⟨[(1,I (N:Int)),(4,.ptr false 1 0),(5,.ptr true (gh.length+2) 0)],pbx c,P gh vars (cls++upto (goodG c f) i k) c f⟩)
 |0,i,cls,h,_=>by
  have hlt:¬(i:Int)<(N:Int):=by omega
  refine (jqy (s1:=?s1) (q7m_ ?h1)).trans ?r1
  case h1=>simp only[q7m,decide_eq_false hlt,jr9];rfl
  case r1=>simp[keep,upto,stays,cC]
 | k+1,i,cls,h,hs=>by
  have hlt:(i:Int)<(N:Int):=by omega
  have hli:=hc.bads
  have e2:IntKind.i64.wrap ((i:Int)+1)=((i+1:Nat):Int):=by rw[jqv (by omega) (by omega)];omega
  have hg:=j15h (gh:=gh) (vars:=vars) (f:=f) (t:=(i:Int)) (cls:=cls) hli hb (by omega)
  have hlen:(goodG c f i).length≤c.bads.length:=jsn _ _
  have hrec:=jz2 hc hN hb k (i+1) (cls++goodG c f i) (by omega) (by rw[List.length_append];omega)
  rw[upto,←List.append_assoc]
  refine jqw (q7m_ (s:=⟨[(1,I (N:Int)),(4,.ptr false 1 0),(5,.ptr true (gh.length+2) 0),(15,I (N:Int)),(16,I ((i+1:Nat):Int))],pbx c,P gh vars (cls++goodG c f i) c f⟩) ?h2) hrec
  case h2=>
   unfold goodG at *
   generalize P gh vars (cls++goodC (IntKind.i64.wrap ((i:Int)*f)) c.bads) c f=g1 at *
   generalize P gh vars cls c f=g0 at *
   have hD:=decide_eq_true hlt
   simp only[q7m,hD,jry]
   simp[hg,e2,cC]
theorem jz3 {t st:Nat} (hst:c.st=(st:Int)) (hl:st≤1048576) (hN:N≤40):∀k u (s:Int×List (List Int)),u+k=N+1→s.2.length+2097153*k≤5900000000→
  runL pg q4i ⟨[(1,I (N:Int)),(4,.ptr false 1 0),(5,.ptr true (gh.length+2) 0),(7,I (t:Int)),(8,I (u:Int)),(24,I ((N+1:Nat):Int)),(25,I (t:Int))],pbx c,P gh s.1 s.2 c f⟩=
   some (.normal,⟨[(1,I (N:Int)),(4,.ptr false 1 0),(5,.ptr true (gh.length+2) 0),(24,I ((N+1:Nat):Int)),(25,I (t:Int))],pbx c,P gh (rowS f c.inp st (t:Int) u k s).1 (rowS f c.inp st (t:Int) u k s).2 c f⟩)
 |0,u,s,h,_=>by
  have hlt:¬(u:Int)≤(N:Int):=by omega
  refine (jqy (s1:=?s1) (q7n_ ?h1)).trans ?r1
  case h1=>simp only[q7n,decide_eq_false hlt,jr9];rfl
  case r1=>simp[keep,rowS,stays,cC]
 | k+1,u,s,h,hs=>by
  obtain⟨v,cls⟩:=s
  have hlt:(u:Int)≤(N:Int):=by omega
  have e2:IntKind.i64.wrap ((u:Int)+1)=((u+1:Nat):Int):=by rw[jqv (by omega) (by omega)];omega
  simp only at hs
  have hg:=j15i (gh:=gh) (f:=f) (t:=(t:Int)) (u:=(u:Int)) (cls:=cls) (v:=v) hst hl (by omega)
  have hlen:=jvh (f:=f) (inp:=c.inp) (st:=st) (t:=(t:Int)) (u:=(u:Int)) (s:=(v,cls))
  simp only at hlen
  have hrec:=jz3 (t:=t) hst hl hN k (u+1) (difS f c.inp st t u (v,cls)) (by omega) (by omega)
  rw[rowS]
  refine jqw (q7n_ (s:=⟨[(1,I (N:Int)),(4,.ptr false 1 0),(5,.ptr true (gh.length+2) 0),(7,I (t:Int)),(8,I ((u+1:Nat):Int)),(24,I ((N+1:Nat):Int)),(25,I (t:Int))],pbx c,P gh (difS f c.inp st t u (v,cls)).1 (difS f c.inp st t u (v,cls)).2 c f⟩) ?h2) hrec
  case h2=>
   generalize P gh (difS f c.inp st t u (v,cls)).1 (difS f c.inp st t u (v,cls)).2 c f=g1 at *
   generalize P gh v cls c f=g0 at *
   have hD:=decide_eq_true hlt
   simp only[q7n,hD,jry]
   simp[hg,e2,cC]
theorem jz4 {st:Nat} (hst:c.st=(st:Int)) (hl:st≤1048576) (hN:N≤40):∀k t (s:Int×List (List Int)),t+k=N+1→s.2.length+84000000*k≤5800000000→
  runL pg q4j ⟨[(1,I (N:Int)),(4,.ptr false 1 0),(5,.ptr true (gh.length+2) 0),(24,I ((N+1:Nat):Int)),(25,I (t:Int))],pbx c,P gh s.1 s.2 c f⟩=
   some (.normal,⟨[(4,.ptr false 1 0),(5,.ptr true (gh.length+2) 0)],pbx c,P gh (allS f c.inp st N t k s).1 (allS f c.inp st N t k s).2 c f⟩)
 |0,t,s,h,_=>by
  have hlt:¬(t:Int)<((N+1:Nat):Int):=by omega
  refine (jqy (s1:=?s1) (q7o_ ?h1)).trans ?r1
  case h1=>simp only[q7o,decide_eq_false hlt,jr9];rfl
  case r1=>simp[keep,allS,stays,cC]
 | k+1,t,s,h,hs=>by
  have hlt:(t:Int)<((N+1:Nat):Int):=by omega
  have e2:IntKind.i64.wrap ((t:Int)+1)=((t+1:Nat):Int):=by rw[jqv (by omega) (by omega)];omega
  have hin:=jz3 (gh:=gh) (f:=f) (t:=t) hst hl hN (N-t) (t+1) s (by omega) (by omega)
  have hlen:=ju2 (f:=f) (inp:=c.inp) (st:=st) (t:=(t:Int)) (t+1) (N-t) s
  have h3:(2*st+1)*(N-t)≤2097153*40:=Nat.mul_le_mul (by omega) (by omega)
  have hrec:=jz4 hst hl hN k (t+1) (rowS f c.inp st t (t+1) (N-t) s) (by omega) (by omega)
  have hk:∀G:List GObj,runL pg q2d ⟨[(1,I (N:Int)),(4,.ptr false 1 0),(5,.ptr true (gh.length+2) 0),(24,I ((N+1:Nat):Int)),(25,I (t:Int))],pbx c,G⟩=some (.normal,⟨[(1,I (N:Int)),(4,.ptr false 1 0),(5,.ptr true (gh.length+2) 0),(24,I ((N+1:Nat):Int)),(25,I ((t+1:Nat):Int))],pbx c,G⟩):=fun G=>by
   refine qcm_ ?_
   simp only[qcm,e2,pbx,cC]
  rw[allS]
  refine jqw (q7o_ (s:=⟨[(1,I (N:Int)),(4,.ptr false 1 0),(5,.ptr true (gh.length+2) 0),(24,I ((N+1:Nat):Int)),(25,I ((t+1:Nat):Int))],pbx c,P gh (rowS f c.inp st t (t+1) (N-t) s).1 (rowS f c.inp st t (t+1) (N-t) s).2 c f⟩) ?h2) hrec
  case h2=>
   generalize P gh (rowS f c.inp st t (t+1) (N-t) s).1 (rowS f c.inp st t (t+1) (N-t) s).2 c f=g1 at *
   generalize P gh s.1 s.2 c f=g0 at *
   have hkk:=hk g1
   unfold pbx cC at hin hkk ⊢
   simp only[LI] at hin hkk ⊢
   have hD:=decide_eq_true hlt
   generalize ((N+1:Nat):Int)=M at *
   generalize ((t+1:Nat):Int)=T at *
   simp[q7o,hD,e2,hin,hkk,show Nat.ble 2 2=true from rfl]
theorem j15j {st:Nat} (hc:CiS c) (hN:N≤40) (hst:c.st=(st:Int)) (hl:st≤1048576) (hb:∀x∈c.bads,0≤x∧x<1099511627776) :
  callL pg 275 [ciV c,I (N:Int)] gh=some (clV (difR c (frE c) (IntKind.i64.wrap (frE c*((N+1:Nat):Int))) N st).1 (difR c (frE c) (IntKind.i64.wrap (frE c*((N+1:Nat):Int))) N st).2,gh):=by
 have e1:IntKind.i64.wrap ((N:Int)+1)=((N+1:Nat):Int):=by rw[jqv (by omega) (by omega)];omega
 have hR:=Raw_eq (gh:=gh) (begun:=false) hc hN
 have hlen:=jvf (begun:=false) hc hN (frE c)
 generalize hv:IntKind.i64.wrap (frE c*((N+1:Nat):Int))=vars at *
 generalize hf:frE c=f at *
 unfold difR
 generalize rawC c f N false=R at *
 have l1:=jz2 (gh:=gh) (vars:=vars) (f:=f) hc hN hb N 0 R (by omega) (by omega)
 have n1:(upto (goodG c f) 0 N).length≤1048576*N:=jrf (fun i=>by have:=hc.bads;have:=jsn (IntKind.i64.wrap ((i:Int)*f)) c.bads;show (goodC _ c.bads).length≤_;omega) _ _
 generalize upto (goodG c f) 0 N=A1 at *
 have l2:=jz4 (gh:=gh) (f:=f) hst hl hN (N+1) 0 (vars,R++A1) (by omega) (by simp only[List.length_append];omega)
 generalize hV:(allS f c.inp st N 0 (N+1) (vars,R++A1)).1=v2 at *
 generalize hL:(allS f c.inp st N 0 (N+1) (vars,R++A1)).2=L2 at *
 have hu:=P_un (gh:=gh) (c:=c) (f:=f) (vars:=v2) (cls:=L2)
 have hp:=P_pr (gh:=gh) (c:=c) (f:=f) (vars:=v2) (cls:=L2)
 have hm:=P_mk (gh:=gh) (c:=c) (f:=f) (vars:=v2) (cls:=L2)
 have ht:(P gh v2 L2 c f).take gh.length=gh:=by simp[P,W,mkR]
 have hn:=jrq L2
 have hg0:W gh vars R c f []++[prO gh.length c]=P gh vars R c f:=by simp[P,W,mkR]
 have hgl:(W gh vars R c f []).length=gh.length+2:=by simp[W,mkR]
 unfold clV
 simp only at l2
 generalize P gh v2 L2 c f=g2 at *
 generalize P gh vars (R++A1) c f=g1 at *
 generalize P gh vars R c f=g0 at *
 generalize W gh vars R c f []=gw at *
 generalize (L2.map fun l=>LI l)=L at *
 unfold prO at hp hg0
 unfold uroO at hu
 have k3:runL pg q2e ⟨[(4,.ptr false 1 0),(5,.ptr true (gh.length+2) 0)],pbx c,g2⟩=some (.ret,⟨[(4,.ptr false 1 0)],[cC c,[I v2,.sl false 1 L]],g2⟩):=by
  refine qcn_ ?_
  simp[qcn,hu,hp,hm,cC]
 have k1:runL pg q2f ⟨[(1,I (N:Int)),(4,.ptr false 1 0),(5,.ptr true (gh.length+2) 0)],pbx c,g1⟩=some (.ret,⟨[(4,.ptr false 1 0)],[cC c,[I v2,.sl false 1 L]],g2⟩):=by
  refine qco_ ?_
  unfold pbx cC at l2 k3
  simp only[Int.natCast_zero,LI] at l2 k3
  unfold cC
  simp only[LI]
  generalize ((N+1:Nat):Int)=M at *
  simp[qco,e1,l2,k3]
 unfold pbx cC at l1 k1
 simp only[ciV,Int.natCast_zero,LI] at hR l1 k1 hg0 ⊢
 refine jqs (fn:=q4k) (s:=⟨[(4,.ptr false 1 0)],[cC c,[I v2,.sl false 1 L]],g2⟩) rfl rfl (qcp_ ?h5) ?r5
 case h5=>simp[qcp,hR,hgl,hg0,l1,k1,cC]
 case r5=>simp[finish,results,q4k,resOfs,resOf,St.cellsAt,resOk,hn,ht]
end
end Go.Lw
end

/-! BlastChecks: the law answers true. -/
section
namespace Go.Lw
open Go
theorem j15t (p:Int→Bool) (l:List Int):(noNeg l).all p=l.all fun n=>n== -1||p n:=by
 induction l with
 |nil=>rfl
 |cons a l ih=>
  simp only[noNeg] at ih ⊢
  rw[List.filter_cons,List.all_cons,←ih]
  cases h:a== -1 with
  |true=>simp[bne,h]
  |false=>simp[bne,h]
section
variable {gh:List GObj}
abbrev ciBox (ins:Int) (G:List PV) (inp st:Int) (A B' C D:List Int):List PV:=[I ins,.sl false 2 G,I inp,I st,LI A,LI B',LI C,LI D]
theorem jzb {ins:Int} {G:List PV} {inp st:Int} {A B' C D:List Int} {p:Int→Bool} (hp:∀n,callL pg 3 [.agg [I ins,.sl false 2 G],I n] gh=some (B (p n),gh)) (hs:Sz A.length):∀k i,i+k=A.length→
  runL pg q5f ⟨[(1,.ptr false 0 0),(4,I (i:Nat))],[ciBox ins G inp st A B' C D],gh⟩=
   if ((A.drop i).all fun n=>n== -1||p n)=true then some (.normal,⟨[(1,.ptr false 0 0)],[ciBox ins G inp st A B' C D],gh⟩) else some (.ret,⟨[(2,I 5)],[],gh⟩)
 |0,i,h=>by
  have hlt:¬i<A.length:=by omega
  rw[List.drop_eq_nil_of_le (by omega)]
  refine (jqy (s1:=?s1) (q1x_ ?h1)).trans ?r1
  case h1=>simp[q1x,hlt];rfl
  case r1=>simp[keep,stays]
 | k+1,i,h=>by
  have hlt:i<A.length:=by omega
  have hx:(A.map I)[i]?=some (I A[i]):=by simp[hlt]
  have hn:=hp A[i]
  have hw:IntKind.i64.wrap ((i:Int)+1)=((i+1:Nat):Int):=jrj (by simp only[Sz] at hs ⊢;omega)
  have ih:=jzb (inp:=inp) (st:=st) (B':=B') (C:=C) (D:=D) hp hs k (i+1) (by omega)
  rw[List.drop_eq_getElem_cons hlt,List.all_cons]
  simp only[ciBox,LI] at ih ⊢
  generalize ((A.drop (i+1)).all fun n=>n== -1||p n)=rest at *
  generalize A[i]=x at *
  have hltL:i<(A.map I).length:=by simpa using hlt
  generalize A.map I=L at *
  have hx2:L[i]=I x:=by rw[List.getElem?_eq_getElem hltL] at hx;exact Option.some.inj hx
  obtain⟨u,hu⟩:∃u:Int,((i+1:Nat):Int)=u:=⟨_,rfl⟩
  rw[hu] at hw ih
  by_cases hm:x= -1
  ·have hb:(x== -1||p x)=true:=by simp[hm]
   rw[hb,Bool.true_and]
   refine jqw (q1x_ ?h2) ih
   case h2=>simp[q1x,hltL,hx2,hm,hw]
  ·cases hq:p x with
   |true=>
    rw[hq] at hn
    have hb:(x== -1||true)=true:=by simp
    rw[hb,Bool.true_and]
    refine jqw (q1x_ ?h3) ih
    case h3=>simp[q1x,hltL,hx2,hm,hw,hn]
   |false=>
    rw[hq] at hn
    have hb:(x== -1||false)=false:=by simp[hm]
    rw[hb,Bool.false_and,if_neg (by decide)]
    refine lp_ret (q1x_ ?h4)
    case h4=>simp[q1x,hltL,hx2,hm,hn]
theorem j15u (c:Ci) (hr:RA c.ands) (hs:(c.inits.length+c.nexts.length+c.bads.length+c.holds.length)*8≤maxBytes):callL pg 213 [ciV c] gh=some (I (ciE c),gh):=by
 have hm:maxBytes=140737488355328:=rfl
 obtain⟨ins,ands,inp,st,A,B',C,D⟩:=c
 simp only at hr hs
 have hC:=j14p (ins:=ins) (gh:=gh) hr
 have fin:∀(e:Int) (s:St),s=⟨[(2,I e)],[],gh⟩→runL pg q5g ⟨[(0,.agg [I ins,.sl false 2 (ands.map andV),I inp,I st,LI A,LI B',LI C,LI D])],[],gh⟩=some (.ret,s)→callL pg 213 [.agg [I ins,.sl false 2 (ands.map andV),I inp,I st,LI A,LI B',LI C,LI D]] gh=some (I e,gh):=by
  intro e s hs' hrun
  subst hs'
  refine jqs (fn:=q5h) rfl rfl hrun ?_
  simp[finish,results,q5h,resOfs,resOf,resOk,get]
 unfold ciE
 simp only[ciV]
 by_cases he:chkE ins ands=0
 ·rw [if_pos he]
  rw[he] at hC
  have hz:=jtw he
  have hL:=fun (lits:List Int) (hs:Sz lits.length)=>j14t (gh:=gh) (lits:=lits) hz.1 hz.2.1 hs
  have h1L:=fun (n:Int)=>jy2 (gh:=gh) hz.1 hz.2.1 n
  rw[j15t]
  simp only[graphV] at hC hL h1L
  generalize isLit ins ands=p at *
  generalize ands.map andV=G at *
  by_cases h1:inp<0
  ·rw[if_pos h1]
   refine fin 4 _ rfl (qf_ ?h1)
   case h1=>simp[qf,hC,h1]
  rw[if_neg h1]
  by_cases h2:st<0
  ·rw[if_pos h2]
   refine fin 4 _ rfl (qf_ ?h2)
   case h2=>simp[qf,hC,h1,h2]
  rw[if_neg h2]
  by_cases h3:IntKind.i64.wrap (inp+st)=ins
  ·rw [if_pos h3]
   by_cases h4:(A.length:Int)=st
   ·rw [if_pos h4]
    by_cases h5:(B'.length:Int)=st
    ·rw [if_pos h5]
     have hl:=jzb (inp:=inp) (st:=st) (B':=B') (C:=C) (D:=D) (A:=A) h1L (by simp only[Sz];omega) A.length 0 (by omega)
     have hB:=hL B' (by simp only[Sz];omega)
     have hC':=hL C (by simp only[Sz];omega)
     have hD:=hL D (by simp only[Sz];omega)
     simp only[List.drop_zero,Int.natCast_zero,ciBox,LI] at hl hB hC' hD
     generalize (A.all fun n=>n== -1||p n)=a at *
     generalize B'.all p=b at *
     generalize C.all p=c at *
     generalize D.all p=d at *
     simp only[LI] at *
     have hk:runL pg q2h ⟨[(1,.ptr false 0 0)],[[I ins,.sl false 2 G,I inp,I st,.sl false 1 (A.map I),.sl false 1 (B'.map I),.sl false 1 (C.map I),.sl false 1 (D.map I)]],gh⟩=some (.ret,⟨[(2,I (if (b&&(c&&d))=true then 0 else 5))],[],gh⟩):=by
      refine q1y_ ?_
      cases b
      ·simp[q1y,hB]
      ·cases c
       ·simp[q1y,hB,hC']
       ·cases d
        ·simp[q1y,hB,hC',hD]
        ·simp[q1y,hB,hC',hD]
     have hlA:(A.map I).length=A.length:=List.length_map _
     have hlB:(B'.map I).length=B'.length:=List.length_map _
     cases a with
     |true=>
      rw[if_pos rfl] at hl
      rw[Bool.true_and]
      have er:(if (b&&(c&&d))=true then 0 else 5:Int)=if (b&&(c&&d))=true then (0:Int) else 5:=rfl
      generalize (if (b&&(c&&d))=true then (0:Int) else 5)=r at *
      refine fin r _ rfl (qf_ ?h3)
      case h3=>simp[qf,hC,h1,h2,h3,h4,h5,hl,hk]
     |false=>
      rw[if_neg (by decide)] at hl
      rw[Bool.false_and,if_neg (by decide)]
      refine fin 5 _ rfl (qf_ ?h4)
      case h4=>simp[qf,hC,h1,h2,h3,h4,h5,hl]
    ·rw[if_neg h5]
     refine fin 1 _ rfl (qf_ ?h5)
     case h5=>simp[qf,hC,h1,h2,h3,h4,h5]
   ·rw[if_neg h4]
    refine fin 1 _ rfl (qf_ ?h6)
    case h6=>simp[qf,hC,h1,h2,h3,h4]
  ·rw[if_neg h3]
   refine fin 4 _ rfl (qf_ ?h7)
   case h7=>simp[qf,hC,h1,h2,h3]
 ·rw[if_neg he]
  simp only[graphV] at hC
  generalize chkE ins ands=e at *
  generalize ands.map andV=G at *
  refine fin e _ rfl (qf_ ?h8)
  case h8=>simp[qf,hC,he]
end
def circuitC:List CS:=[.int,.slice true 16 [.int,.int],.int,.int,.slice false 8 [.int],.slice false 8 [.int],.slice false 8 [.int],.slice false 8 [.int]]
theorem j15v {p:PV} (h:argTy (true,circuitC) p):∃c:Ci,p=ciV c∧RA c.ands:=by
 obtain⟨ps,rfl,hp⟩:=j13c h
 obtain⟨_,_,rfl,g0,hp⟩:=jri hp
 obtain⟨_,_,rfl,g1,hp⟩:=jri hp
 obtain⟨_,_,rfl,g2,hp⟩:=jri hp
 obtain⟨_,_,rfl,g3,hp⟩:=jri hp
 obtain⟨_,_,rfl,g4,hp⟩:=jri hp
 obtain⟨_,_,rfl,g5,hp⟩:=jri hp
 obtain⟨_,_,rfl,g6,hp⟩:=jri hp
 obtain⟨_,_,rfl,g7,hp⟩:=jri hp
 obtain rfl:=jtp hp
 obtain⟨ins,rfl,-⟩:=js6 g0
 obtain⟨xs,rfl,hb,hx⟩:=jy5 g1
 obtain⟨ands,hr,rfl⟩:=jy6 hx
 obtain⟨a,rfl,-⟩:=js6 g2
 obtain⟨b,rfl,-⟩:=js6 g3
 obtain⟨l1,rfl,-⟩:=jtx (p:=_) (show argTy (false,[.slice false 8 [.int]]) _ from⟨g4,trivial⟩)
 obtain⟨l2,rfl,-⟩:=jtx (p:=_) (show argTy (false,[.slice false 8 [.int]]) _ from⟨g5,trivial⟩)
 obtain⟨l3,rfl,-⟩:=jtx (p:=_) (show argTy (false,[.slice false 8 [.int]]) _ from⟨g6,trivial⟩)
 obtain⟨l4,rfl,-⟩:=jtx (p:=_) (show argTy (false,[.slice false 8 [.int]]) _ from⟨g7,trivial⟩)
 exact⟨⟨ins,ands,a,b,l1,l2,l3,l4⟩,rfl,hr⟩
end Go.Lw
end

/-! Unrolling: what the document's CheckSteps and StepClauses come to. -/
section
namespace Go.Lw
open Go
section
variable {gh:List GObj}
theorem jzc {l:List Int} {n:Int} (hs:Sz l.length):∀k i,i+k=l.length→
  runL pg q4x ⟨[(0,LI l),(1,I n),(5,I (i:Int))],[],gh⟩=if n∈l.drop i then some (.ret,⟨[(4,B true)],[],gh⟩) else some (.normal,⟨[],[],gh⟩)
 |0,i,h=>by
  rw[List.drop_eq_nil_of_le (by omega),if_neg (by simp)]
  have hlt:¬i<l.length:=by omega
  refine (jqy (s1:=?s1) (q3j_ ?h1)).trans ?r1
  case h1=>simp only[q3j];simp[hlt];rfl
  case r1=>simp[keep]
 | k+1,i,h=>by
  have hlt:i<l.length:=by omega
  have hltD:decide (i<l.length)=true:=decide_eq_true hlt
  have e2:IntKind.i64.wrap ((i:Int)+1)=((i+1:Nat):Int):=jrj (by simp only[Sz] at hs ⊢;omega)
  have hg:(l.map I)[i]?=some (I l[i]):=by simp[List.getElem?_eq_getElem hlt]
  have hrec:=jzc (n:=n) hs k (i+1) (by omega)
  rw[List.drop_eq_getElem_cons hlt]
  generalize l[i]=a at *
  by_cases he:a=n
  ·rw[if_pos (by simp[he])]
   refine lp_ret (q3j_ ?_)
   simp only[q3j]
   simp[hltD,hg,he,-List.getElem?_map]
  ·have hmem:(n∈a::l.drop (i+1))=(n∈l.drop (i+1)):=by
    have:¬n=a:=fun e=>he e.symm
    simp[this]
   simp only[hmem]
   refine jqw (s1:=⟨[(0,LI l),(1,I n),(5,I ((i+1:Nat):Int))],[],gh⟩) (q3j_ ?_) hrec
   simp only[q3j]
   simp[hltD,hg,he,e2,-List.getElem?_map]
theorem j15w {l:List Int} {n:Int} (hs:Sz l.length):callL pg 45 [LI l,I n] gh=some (B (decide (n∈l)),gh):=by
 have h:=jzc (gh:=gh) (n:=n) hs l.length 0 (by omega)
 rw[List.drop_zero] at h
 simp only[Int.natCast_zero] at h
 by_cases hn:n∈l
 ·rw[if_pos hn] at h
  rw[decide_eq_true hn]
  refine jqs (fn:=q1f) (s:=⟨[(4,B true)],[],gh⟩) rfl rfl (q7q_ ?h1) ?r1
  case h1=>
   simp only[LI] at *
   generalize l.map I=L at *
   simp[q7q,h]
  case r1=>simp[finish,results,q1f,resOfs,resOf,resOk]
 ·rw[if_neg hn] at h
  rw[decide_eq_false hn]
  have hk:=qqd_ (pg:=pg) (gh:=gh) (e:= .ret) (s:=⟨[(4,B false)],[],gh⟩) rfl
  refine jqs (fn:=q1f) (s:=⟨[(4,B false)],[],gh⟩) rfl rfl (q7q_ ?h2) ?r2
  case h2=>
   simp only[LI] at *
   generalize l.map I=L at *
   simp[q7q,h,hk]
  case r2=>simp[finish,results,q1f,resOfs,resOf,resOk]
variable {c:Ci} {begun:Bool}
theorem jzd (hc:CiT c):∀k i,i+k=c.inits.length→
  runL pg q1k ⟨[(2,B begun),(3,.ptr false 0 0),(7,I 0),(8,I (i:Int))],[cC c],gh⟩=
   some (.normal,⟨[(7,I (if begun=true∧(c.inits.drop i).any (fun x=>decide (1<x))=true then 7 else 0))],[],gh⟩)
 |0,i,h=>by
  have hlt:¬i<c.inits.length:=by omega
  rw[List.drop_eq_nil_of_le (by omega),if_neg (by simp)]
  refine (jqy (s1:=?s1) (qg_ ?h1)).trans ?r1
  case h1=>simp[qg,cC,hlt];rfl
  case r1=>simp[keep,stays]
 | k +1,i,h=>by
  have hlt:i<c.inits.length:=by omega
  have hl:=hc.inits
  have hltD:decide (i<c.inits.length)=true:=decide_eq_true hlt
  have e2:IntKind.i64.wrap ((i:Int)+1)=((i+1:Nat):Int):=by rw[jqv (by omega) (by omega)];omega
  have hx:(c.inits.map I)[i]?=some (I c.inits[i]):=by simp[List.getElem?_eq_getElem hlt]
  have hLl:(c.inits.map I).length=c.inits.length:=List.length_map _
  have hrec:=jzd hc k (i+1) (by omega)
  have hk:∀e:Int,runL pg qx ⟨[(2,B begun),(3,.ptr false 0 0),(7,I e),(8,I (i:Int))],[cC c],gh⟩=some (.normal,⟨[(2,B begun),(3,.ptr false 0 0),(7,I e),(8,I ((i+1:Nat):Int))],[cC c],gh⟩):=fun e=>by
   refine qcw_ ?_
   simp only[qcw,e2,cC]
  rw[List.drop_eq_getElem_cons hlt,List.any_cons]
  generalize c.inits[i]=x at *
  have hex:(begun=true∧(decide (1<x))=true)∨¬(begun=true∧(decide (1<x))=true):=Classical.em _
  rcases hex with ⟨rfl,h1⟩|h1
  ·rw[if_pos ⟨rfl,by rw[h1];rfl⟩]
   have h1':1<x:=of_decide_eq_true h1
   have hk7:=hk 7
   unfold cC at hk7 ⊢
   simp only[LI] at hk7 ⊢
   refine jqw (s1:=⟨[(2,B true),(3,.ptr false 0 0),(7,I 7),(8,I ((i+1:Nat):Int))],[[I c.ins,.sl false 2 (c.ands.map andV),I c.inp,I c.st,.sl false 1 (c.inits.map I),.sl false 1 (c.nexts.map I),.sl false 1 (c.bads.map I),.sl false 1 (c.holds.map I)]],gh⟩) (qg_ ?h2) ?r2
   case h2=>simp[qg,hltD,hLl,hx,h1',hk7,show Nat.ble 1 1=true from rfl,-List.getElem?_map]
   case r2=>
    refine (jqy (s1:=⟨[(2,B true),(3,.ptr false 0 0),(7,I 7),(8,I ((i+1:Nat):Int)),(26,B false)],[[I c.ins,.sl false 2 (c.ands.map andV),I c.inp,I c.st,.sl false 1 (c.inits.map I),.sl false 1 (c.nexts.map I),.sl false 1 (c.bads.map I),.sl false 1 (c.holds.map I)]],gh⟩) (qg_ ?h3)).trans ?r3
    case h3=>
     have:decide ((((i+1:Nat):Int))<((c.inits.map I).length:Int))=true∨decide ((((i+1:Nat):Int))<((c.inits.map I).length:Int))=false:=by cases decide ((((i+1:Nat):Int))<((c.inits.map I).length:Int))<;>simp
     rcases this with hq|hq
     ·simp only[qg,degr,isC_sl,jtv,hq,jry,jr9,show ((7:Int)==0)=false from rfl]
     ·simp only[qg,degr,isC_sl,jtv,hq,jry,jr9]
    case r3=>simp[keep,stays]
  ·have e3:(begun=true∧(decide (1<x)||(c.inits.drop (i+1)).any fun x=>decide (1<x))=true)↔(begun=true∧(c.inits.drop (i+1)).any (fun x=>decide (1<x))=true):=by
    constructor
    ·rintro⟨a,b⟩
     refine⟨a,?_⟩
     rcases Bool.or_eq_true_iff.1 b with b|b
     ·exact absurd ⟨a,b⟩ h1
     ·exact b
    ·rintro⟨a,b⟩;exact⟨a,by rw[b,Bool.or_true]⟩
   simp only[propext e3]
   have hk0:=hk 0
   refine jqw (s1:=⟨[(2,B begun),(3,.ptr false 0 0),(7,I 0),(8,I ((i+1:Nat):Int))],[cC c],gh⟩) (qg_ ?h4) hrec
   case h4=>
    unfold cC at hk0 ⊢
    simp only[LI] at hk0 ⊢
    cases begun with
    |true=>
     have h1':¬1<x:=fun h=>h1 ⟨rfl,decide_eq_true h⟩
     simp[qg,hltD,hLl,hx,h1',hk0,show Nat.ble 1 1=true from rfl,-List.getElem?_map]
    |false=>simp[qg,hltD,hLl,hx,hk0,show Nat.ble 1 1=true from rfl,-List.getElem?_map]
theorem j15x {steps:Int} (hr:RA c.ands) (hc:CiT c):callL pg 330 [ciV c,I steps,B begun] gh=some (I (readyE c steps begun),gh):=by
 have hC:=j15u (gh:=gh) c hr (bulk8 hc)
 have hl:=jzd (begun:=begun) (gh:=gh) hc c.inits.length 0 (by omega)
 have hB:=jrz steps 0 40 gh
 rw[List.drop_zero] at hl
 unfold readyE
 have h3:∀e:Int,runL pg q2i ⟨[(7,I e)],[],gh⟩=some (.ret,⟨[(6,I e)],[],gh⟩):=fun e=>qqm_ rfl
 have hstop:∀e:Int,e≠0→runL pg q1k ⟨[(2,B begun),(3,.ptr false 0 0),(7,I e),(8,I 0)],[cC c],gh⟩=some (.normal,⟨[(7,I e)],[],gh⟩):=fun e he=>by
  have hb:(e==0)=false:=by simpa using he
  unfold cC
  simp only[LI]
  have hex:decide ((0:Int)<((c.inits.map I).length:Int))=true∨decide ((0:Int)<((c.inits.map I).length:Int))=false:=by cases decide ((0:Int)<((c.inits.map I).length:Int))<;>simp
  refine (jqy (s1:=⟨[(2,B begun),(3,.ptr false 0 0),(7,I e),(8,I 0),(26,B false)],[[I c.ins,.sl false 2 (c.ands.map andV),I c.inp,I c.st,.sl false 1 (c.inits.map I),.sl false 1 (c.nexts.map I),.sl false 1 (c.bads.map I),.sl false 1 (c.holds.map I)]],gh⟩) (qg_ ?h1)).trans ?r1
  case h1=>
   rcases hex with hq|hq
   ·simp only[qg,degr,isC_sl,jtv,hq,jry,jr9,hb]
   ·simp only[qg,degr,isC_sl,jtv,hq,jry,jr9]
  case r1=>simp[keep,stays]
 have fin:∀(e:Int) (s:St),s=⟨[(6,I e)],[],gh⟩→runL pg q5i ⟨[(0,ciV c),(1,I steps),(2,B begun)],[],gh⟩=some (.ret,s)→callL pg 330 [ciV c,I steps,B begun] gh=some (I e,gh):=by
  intro e s hs hrun
  subst hs
  refine jqs (fn:=q5j) rfl rfl hrun ?_
  simp[finish,results,q5j,resOfs,resOf,resOk,get]
 have k1:∀e a:Int,runL pg q1k ⟨[(2,B begun),(3,.ptr false 0 0),(7,I e),(8,I 0)],[cC c],gh⟩=some (.normal,⟨[(7,I a)],[],gh⟩)→runL pg qy ⟨[(2,B begun),(3,.ptr false 0 0),(7,I e)],[cC c],gh⟩=some (.ret,⟨[(6,I a)],[],gh⟩):=fun e a h=>by
  refine qcx_ ?_
  unfold cC at h
  simp only[LI] at h
  simp[qcx,h,h3]
 simp only[Int.natCast_zero] at hl
 generalize ciE c=e at *
 by_cases he:e=0
 ·rw[if_pos he]
  subst he
  by_cases h1:steps<0
  ·rw[if_pos h1]
   have hb:decide ((0:Int)≤steps∧steps≤40)=false:=decide_eq_false (by omega)
   rw[hb] at hB
   have hk:=k1 3 3 (hstop 3 (by decide))
   unfold cC at hk
   simp only[ciV,LI] at hC hk fin ⊢
   refine fin 3 _ rfl (q26_ ?h1)
   case h1=>simp[q26,hC,hB,hk]
  rw[if_neg h1]
  by_cases h2:40<steps
  ·rw[if_pos h2]
   have hb:decide ((0:Int)≤steps∧steps≤40)=false:=decide_eq_false (by omega)
   rw[hb] at hB
   have hk:=k1 3 3 (hstop 3 (by decide))
   unfold cC at hk
   simp only[ciV,LI] at hC hk fin ⊢
   refine fin 3 _ rfl (q26_ ?h2)
   case h2=>simp[q26,hC,hB,hk]
  rw[if_neg h2]
  have hb:decide ((0:Int)≤steps∧steps≤40)=true:=decide_eq_true (by omega)
  rw[hb] at hB
  have hk:=k1 _ _ hl
  generalize (if begun=true∧c.inits.any (fun x=>decide (1<x))=true then (7:Int) else 0)=a at *
  unfold cC at hk
  simp only[ciV,LI] at hC hk fin ⊢
  refine fin a _ rfl (q26_ ?h3)
  case h3=>simp[q26,hC,hB,hk]
 ·rw[if_neg he]
  have hk:=k1 e e (hstop e he)
  unfold cC at hk
  simp only[ciV,LI] at hC hk fin ⊢
  refine fin e _ rfl (q26_ ?h5)
  case h5=>simp[q26,hC,he,hk]
end
abbrev outO (vars:Int) (L:List PV):GObj:= .cells [I vars,.sl true 1 L]
def V (gh:List GObj) (c:Ci) (f:Int) (x:GObj):List GObj:=gh++[.cells (cC c),.cells [I f],x]
section
variable {gh:List GObj} {c:Ci} {f vars:Int} {N:Nat} {begun b3:Bool} {x y:GObj}
theorem V_c:(V gh c f x)[gh.length]?=some (.cells (cC c)):=by simp[V]
theorem V_f:(V gh c f x)[gh.length+1]?=some (.cells [I f]):=by simp[V]
theorem V_o:(V gh c f x)[gh.length+2]?=some x:=by simp[V]
theorem V_set:(V gh c f x).set (gh.length+2) y=V gh c f y:=by simp[V]
theorem V_rt {L:List PV} {o b:Bool}:setRt (V gh c f (.cells [I vars,.sl o 1 L])) (gh.length+2) 1 b=some (V gh c f (.cells [I vars,.sl b 1 L])):=by
 simp[setRt,V,spliceAt]
theorem V_rtP {L:List PV} {r:PV} {cl:List GObj→Option (PV×List GObj)} (h:∀o,cl (V gh c f (.cells [I vars,.sl o 1 L]))=some (r,V gh c f (.cells [I vars,.sl o 1 L]))) :
  rtP cl (V gh c f (.cells [I vars,.sl false 1 L])) (gh.length+2) (0+1):=
 ⟨_,_,_,_,V_rt,V_rt,h true,h false,rfl,rfl,rfl,V_rt,V_rt⟩
theorem fits24 {n:Nat} (h:n≤5500000000000):n*24≤maxBytes:=by
 have:maxBytes=140737488355328:=rfl
 omega
theorem jrs {cls:List (List Int)} {l:List Int} (hs:cls.length≤5000000000000):callL pg 338 [LI l,.ptr true (gh.length+2) 0] (V gh c f (outO vars (LLI cls)))=some (.tup [],V gh c f (outO vars (LLI (cls++[l])))):=by
 have hmx:=fits24 (n:=cls.length+1) (by omega)
 have hn:=jrq cls
 have h1:runL pg q5x ⟨[(0,LI l),(1,.ptr true (gh.length+2) 0)],[],V gh c f (outO vars (LLI cls))⟩=some (.normal,⟨[],[],V gh c f (outO vars (LLI (cls++[l])))⟩):=by
  refine qdg_ ?_
  have e3:LLI (cls++[l])=LLI cls++[LI l]:=by simp[LLI]
  have l1:(LLI cls).length=cls.length:=by simp[LLI]
  rw[e3]
  generalize LLI cls=C at *
  rw[←l1] at hmx
  simp[qdg,V_o,V_set,hmx,spliceAt]
 rw[jrm (fn:=q5y) rfl rfl h1]
 simp[finish,results,q5y,resOfs,resOk]
theorem ju3 {t i:Int}:callL pg 339 [I t,I i,.ptr true (gh.length+1) 0,.ptr true gh.length 0] (V gh c f x)=some (I (stE f c.inp t i),V gh c f x):=by
 refine jqs (fn:=q5z) (s:=?s1) rfl rfl (qdh_ ?h1) ?r1
 case h1=>simp[qdh,V_f,V_c,cC];rfl
 case r1=>simp[finish,results,q5z,resOfs,resOf,resOk,stE]
theorem sc_l1 (hc:CiS c) (hN:N≤40):∀k i (cls:List (List Int)),i+k=N+1→cls.length+3000000*k≤800000000→
  runL pg q5k ⟨[(1,I (N:Int)),(2,B begun),(3,B b3),(4,.ptr true gh.length 0),(8,.ptr false 0 0),(9,.ptr true (gh.length+1) 0),(10,.ptr true (gh.length+2) 0),(11,.fn 338 [.ptr true (gh.length+2) 0]),(12,.fn 339 [.ptr true (gh.length+1) 0,.ptr true gh.length 0]),(13,I (i:Int))],[[I 0,.sl true 1 []]],V gh c f (outO vars (LLI (cls)))⟩=some (.normal,⟨[(1,I (N:Int)),(2,B begun),(3,B b3),(4,.ptr true gh.length 0),(8,.ptr false 0 0),(9,.ptr true (gh.length+1) 0),(10,.ptr true (gh.length+2) 0),(11,.fn 338 [.ptr true (gh.length+2) 0]),(12,.fn 339 [.ptr true (gh.length+1) 0,.ptr true gh.length 0])],[[I 0,.sl true 1 []]],V gh c f (outO vars (LLI (cls++upto (andsG c f) i k)))⟩)
 |0,i,cls,h,_=>by
  have hlt:¬(i:Int)≤(N:Int):=by omega
  refine (jqy (s1:=?s1) (q82_ ?h1)).trans ?r1
  case h1=>simp[q82,hlt];rfl
  case r1=>simp[keep,upto,stays]
 | k+1,i,cls,h,hs=>by
  have hlt:(i:Int)≤(N:Int):=by omega
  have e2:IntKind.i64.wrap ((i:Int)+1)=((i+1:Nat):Int):=by rw[jqv (by omega) (by omega)];omega
  have hA:=fun o=>j15l (gh:=V gh c f (.cells [I vars,.sl o 1 (LLI cls)])) (ins:=c.ins) (more:=IntKind.i64.wrap ((i:Int)*f)) hc.ands
  have hlen:(andsG c f i).length=3*c.ands.length:=jsk _ _ _ _
  have ha:=hc.ands
  have hrec:=sc_l1 hc hN k (i+1) (cls++andsG c f i) (by omega) (by rw[List.length_append];omega)
  rw[upto,←List.append_assoc]
  refine jqw (q82_ (s:=⟨[(1,I (N:Int)),(2,B begun),(3,B b3),(4,.ptr true gh.length 0),(8,.ptr false 0 0),(9,.ptr true (gh.length+1) 0),(10,.ptr true (gh.length+2) 0),(11,.fn 338 [.ptr true (gh.length+2) 0]),(12,.fn 339 [.ptr true (gh.length+1) 0,.ptr true gh.length 0]),(13,I ((i+1:Nat):Int))],[[I 0,.sl true 1 []]],V gh c f (outO vars (LLI (cls++andsG c f i)))⟩) ?h2) hrec
  case h2=>
   have hmx:=fits24 (n:=cls.length+(andsG c f i).length) (by omega)
   unfold andsG at *
   have e3:LLI (cls++andsC c.ins (IntKind.i64.wrap ((i:Int)*f)) 0 c.ands)=LLI cls++LLI (andsC c.ins (IntKind.i64.wrap ((i:Int)*f)) 0 c.ands):=by simp[LLI]
   have l1:(LLI cls).length=cls.length:=by simp[LLI]
   have l2:(LLI (andsC c.ins (IntKind.i64.wrap ((i:Int)*f)) 0 c.ands)).length=(andsC c.ins (IntKind.i64.wrap ((i:Int)*f)) 0 c.ands).length:=by simp[LLI]
   rw[e3]
   generalize LLI (andsC c.ins (IntKind.i64.wrap ((i:Int)*f)) 0 c.ands)=M at *
   generalize LLI cls=C at *
   rw[←l1,←l2] at hmx
   unfold graphV at hA
   have hrt:=fun (x:Option (IExit×St))=>jxt (x:=x) (V_rtP hA)
   have hA0:=hA false
   simp[q82,hlt,V_o,V_set,V_c,V_f,cC,hA0,hrt,hmx,e2,spliceAt]
theorem sc_l3 (hc:CiS c) (hst:c.st=(c.nexts.length:Int)) (hnn:∀x∈c.nexts,0≤x) {t:Nat}:∀k i (cls:List (List Int)),i+k=c.nexts.length→cls.length+2*k≤800000000→
  runL pg q5l ⟨[(1,I (N:Int)),(2,B begun),(3,B b3),(4,.ptr true gh.length 0),(8,.ptr false 0 0),(9,.ptr true (gh.length+1) 0),(10,.ptr true (gh.length+2) 0),(11,.fn 338 [.ptr true (gh.length+2) 0]),(12,.fn 339 [.ptr true (gh.length+1) 0,.ptr true gh.length 0]),(14,I (t:Int)),(15,I (i:Int))],[[I 0,.sl true 1 []]],V gh c f (outO vars (LLI (cls)))⟩=some (.normal,⟨[(1,I (N:Int)),(2,B begun),(3,B b3),(4,.ptr true gh.length 0),(8,.ptr false 0 0),(9,.ptr true (gh.length+1) 0),(10,.ptr true (gh.length+2) 0),(11,.fn 338 [.ptr true (gh.length+2) 0]),(12,.fn 339 [.ptr true (gh.length+1) 0,.ptr true gh.length 0]),(14,I (t:Int))],[[I 0,.sl true 1 []]],V gh c f (outO vars (LLI (cls++bindC f c.inp t i (c.nexts.drop i))))⟩)
 |0,i,cls,h,_=>by
  have hlt:¬(i:Int)<c.st:=by omega
  rw[List.drop_eq_nil_of_le (by omega)]
  refine (jqy (s1:=?s1) (q27_ ?h1)).trans ?r1
  case h1=>simp[q27,hlt,V_c,cC];rfl
  case r1=>simp[keep,bindC,stays]
 | k+1,i,cls,h,hs=>by
  have hlt:i<c.nexts.length:=by omega
  have hltI:(i:Int)<c.st:=by omega
  have hli:=hc.nexts
  have e2:IntKind.i64.wrap ((i:Int)+1)=((i+1:Nat):Int):=by rw[jqv (by omega) (by omega)];omega
  have hx:(c.nexts.map I)[i]?=some (I c.nexts[i]):=by simp[List.getElem?_eq_getElem hlt]
  have h0:=hnn _ (List.getElem_mem hlt)
  have hrec:=fun cls' h'=>sc_l3 (t:=t) hc hst hnn k (i+1) cls' (by omega) h'
  have hbl:=jve f c.inp t i c.nexts[i]
  have hk:∀G:List GObj,runL pg qz ⟨[(1,I (N:Int)),(2,B begun),(3,B b3),(4,.ptr true gh.length 0),(8,.ptr false 0 0),(9,.ptr true (gh.length+1) 0),(10,.ptr true (gh.length+2) 0),(11,.fn 338 [.ptr true (gh.length+2) 0]),(12,.fn 339 [.ptr true (gh.length+1) 0,.ptr true gh.length 0]),(14,I (t:Int)),(15,I (i:Int))],[[I 0,.sl true 1 []]],G⟩=some (.normal,⟨[(1,I (N:Int)),(2,B begun),(3,B b3),(4,.ptr true gh.length 0),(8,.ptr false 0 0),(9,.ptr true (gh.length+1) 0),(10,.ptr true (gh.length+2) 0),(11,.fn 338 [.ptr true (gh.length+2) 0]),(12,.fn 339 [.ptr true (gh.length+1) 0,.ptr true gh.length 0]),(14,I (t:Int)),(15,I ((i+1:Nat):Int))],[[I 0,.sl true 1 []]],G⟩):=fun G=>by
   refine qcy_ ?_
   simp[qcy,e2]
  rw[List.drop_eq_getElem_cons hlt,bindC,←List.append_assoc]
  refine jqw (q27_ (s:=⟨[(1,I (N:Int)),(2,B begun),(3,B b3),(4,.ptr true gh.length 0),(8,.ptr false 0 0),(9,.ptr true (gh.length+1) 0),(10,.ptr true (gh.length+2) 0),(11,.fn 338 [.ptr true (gh.length+2) 0]),(12,.fn 339 [.ptr true (gh.length+1) 0,.ptr true gh.length 0]),(14,I (t:Int)),(15,I ((i+1:Nat):Int))],[[I 0,.sl true 1 []]],V gh c f (outO vars (LLI (cls++bind1 f c.inp t i c.nexts[i])))⟩) ?h2) (hrec _ (by rw[List.length_append];omega))
  case h2=>
   generalize c.nexts[i]=x at *
   unfold bind1
   have hbit:=fun y=>ju3 (gh:=gh) (c:=c) (f:=f) (x:=y) (t:=(t:Int)) (i:=(i:Int))
   generalize stE f c.inp t i=n at *
   by_cases x0:x=0
   ·subst x0
    rw[if_pos (by decide),if_neg (by decide)]
    have ha:=jrs (gh:=gh) (c:=c) (f:=f) (vars:=vars) (cls:=cls) (l:=[negI n]) (by omega)
    simp only[LI,List.map_cons,List.map_nil,negI] at ha ⊢
    generalize LLI (cls++[[IntKind.i64.wrap (-n)]])=C1 at *
    generalize LLI cls=C at *
    simp[q27,hltI,hx,V_c,cC,hbit,ha,hk,show Nat.ble 1 1=true from rfl,-List.getElem?_map]
   by_cases x1:x=1
   ·subst x1
    rw[if_pos (by decide),if_pos rfl]
    have ha:=jrs (gh:=gh) (c:=c) (f:=f) (vars:=vars) (cls:=cls) (l:=[n]) (by omega)
    simp only[LI,List.map_cons,List.map_nil] at ha ⊢
    generalize LLI (cls++[[n]])=C1 at *
    generalize LLI cls=C at *
    simp[q27,hltI,hx,V_c,cC,hbit,ha,hk,show Nat.ble 1 1=true from rfl,-List.getElem?_map]
   ·rw[if_neg (by omega)]
    have hN':=fun G=>Num_eq x (IntKind.i64.wrap (IntKind.i64.wrap ((t:Int)-1)*f)) G
    generalize numE x (IntKind.i64.wrap (IntKind.i64.wrap ((t:Int)-1)*f))=A at *
    have ha1:=jrs (gh:=gh) (c:=c) (f:=f) (vars:=vars) (cls:=cls) (l:=[negI n,A]) (by omega)
    have ha2:=jrs (gh:=gh) (c:=c) (f:=f) (vars:=vars) (cls:=cls++[[negI n,A]]) (l:=[n,negI A]) (by simp;omega)
    rw[List.append_assoc] at ha2
    simp only[LI,List.map_cons,List.map_nil,negI,List.cons_append,List.nil_append] at ha1 ha2 ⊢
    generalize LLI (cls++[[IntKind.i64.wrap (-n),A],[n,IntKind.i64.wrap (-A)]])=C2 at *
    generalize LLI (cls++[[IntKind.i64.wrap (-n),A]])=C1 at *
    generalize LLI cls=C at *
    simp[q27,hltI,hx,x0,x1,V_c,V_f,cC,hbit,hN',ha1,ha2,hk,show Nat.ble 1 1=true from rfl,-List.getElem?_map]
theorem sc_l2 (hc:CiS c) (hN:N≤40) (hst:c.st=(c.nexts.length:Int)) (hnn:∀x∈c.nexts,0≤x):∀k i (cls:List (List Int)),i+k=N+1→cls.length+3000000*k≤800000000→
  runL pg q5m ⟨[(1,I (N:Int)),(2,B begun),(3,B b3),(4,.ptr true gh.length 0),(8,.ptr false 0 0),(9,.ptr true (gh.length+1) 0),(10,.ptr true (gh.length+2) 0),(11,.fn 338 [.ptr true (gh.length+2) 0]),(12,.fn 339 [.ptr true (gh.length+1) 0,.ptr true gh.length 0]),(14,I (i:Int))],[[I 0,.sl true 1 []]],V gh c f (outO vars (LLI (cls)))⟩=some (.normal,⟨[(1,I (N:Int)),(2,B begun),(3,B b3),(4,.ptr true gh.length 0),(8,.ptr false 0 0),(9,.ptr true (gh.length+1) 0),(10,.ptr true (gh.length+2) 0),(11,.fn 338 [.ptr true (gh.length+2) 0]),(12,.fn 339 [.ptr true (gh.length+1) 0,.ptr true gh.length 0])],[[I 0,.sl true 1 []]],V gh c f (outO vars (LLI (cls++upto (bindG c f) i k)))⟩)
 |0,i,cls,h,_=>by
  have hlt:¬(i:Int)≤(N:Int):=by omega
  refine (jqy (s1:=?s1) (q83_ ?h1)).trans ?r1
  case h1=>simp[q83,hlt];rfl
  case r1=>simp[keep,upto,stays]
 | k+1,i,cls,h,hs=>by
  have hlt:(i:Int)≤(N:Int):=by omega
  have hli:=hc.nexts
  have e2:IntKind.i64.wrap ((i:Int)+1)=((i+1:Nat):Int):=by rw[jqv (by omega) (by omega)];omega
  have hlen:(bindG c f i).length≤2*c.nexts.length:=jsm _ _ _ _ _
  have hin:=sc_l3 (gh:=gh) (vars:=vars) (f:=f) (begun:=begun) (b3:=b3) (N:=N) (t:=i) hc hst hnn c.nexts.length 0 cls (by omega) (by omega)
  have hrec:=sc_l2 hc hN hst hnn k (i+1) (cls++bindG c f i) (by omega) (by rw[List.length_append];omega)
  have hk:∀G:List GObj,runL pg q2j ⟨[(1,I (N:Int)),(2,B begun),(3,B b3),(4,.ptr true gh.length 0),(8,.ptr false 0 0),(9,.ptr true (gh.length+1) 0),(10,.ptr true (gh.length+2) 0),(11,.fn 338 [.ptr true (gh.length+2) 0]),(12,.fn 339 [.ptr true (gh.length+1) 0,.ptr true gh.length 0]),(14,I (i:Int))],[[I 0,.sl true 1 []]],G⟩=some (.normal,⟨[(1,I (N:Int)),(2,B begun),(3,B b3),(4,.ptr true gh.length 0),(8,.ptr false 0 0),(9,.ptr true (gh.length+1) 0),(10,.ptr true (gh.length+2) 0),(11,.fn 338 [.ptr true (gh.length+2) 0]),(12,.fn 339 [.ptr true (gh.length+1) 0,.ptr true gh.length 0]),(14,I ((i+1:Nat):Int))],[[I 0,.sl true 1 []]],G⟩):=fun G=>by
   refine qcz_ ?_
   simp[qcz,e2]
  rw[List.drop_zero] at hin
  rw[upto,←List.append_assoc]
  refine jqw (q83_ (s:=⟨[(1,I (N:Int)),(2,B begun),(3,B b3),(4,.ptr true gh.length 0),(8,.ptr false 0 0),(9,.ptr true (gh.length+1) 0),(10,.ptr true (gh.length+2) 0),(11,.fn 338 [.ptr true (gh.length+2) 0]),(12,.fn 339 [.ptr true (gh.length+1) 0,.ptr true gh.length 0]),(14,I ((i+1:Nat):Int))],[[I 0,.sl true 1 []]],V gh c f (outO vars (LLI (cls++bindG c f i)))⟩) ?h2) hrec
  case h2=>
   unfold bindG at *
   simp only[Int.natCast_zero] at hin
   generalize LLI (cls++bindC f c.inp (i:Int) 0 c.nexts)=C1 at *
   generalize LLI cls=C at *
   simp[q83,hlt,hin,hk,show Nat.ble 1 1=true from rfl]
theorem jze (f inp:Int):∀(i:Nat) (l:List Int),initC f inp false i l=[]
 |_,[]=>rfl
 |i,x::l=>by rw[initC,jze f inp (i+1) l,if_neg (by simp)];rfl
theorem sc_l4 (hc:CiS c) (hst:c.st=(c.inits.length:Int)) (hin:∀x∈c.inits,x≤1):∀k i (cls:List (List Int)),i+k=c.inits.length→cls.length+k≤800000000→
  runL pg q1m ⟨[(1,I (N:Int)),(2,B true),(3,B b3),(4,.ptr true gh.length 0),(8,.ptr false 0 0),(9,.ptr true (gh.length+1) 0),(10,.ptr true (gh.length+2) 0),(11,.fn 338 [.ptr true (gh.length+2) 0]),(12,.fn 339 [.ptr true (gh.length+1) 0,.ptr true gh.length 0]),(17,I (i:Int))],[[I 0,.sl true 1 []]],V gh c f (outO vars (LLI (cls)))⟩=some (.normal,⟨[(1,I (N:Int)),(3,B b3),(4,.ptr true gh.length 0),(8,.ptr false 0 0),(9,.ptr true (gh.length+1) 0),(10,.ptr true (gh.length+2) 0),(11,.fn 338 [.ptr true (gh.length+2) 0]),(12,.fn 339 [.ptr true (gh.length+1) 0,.ptr true gh.length 0])],[[I 0,.sl true 1 []]],V gh c f (outO vars (LLI (cls++initC f c.inp true i (c.inits.drop i))))⟩)
 |0,i,cls,h,_=>by
  have hlt:¬(i:Int)<c.st:=by omega
  rw[List.drop_eq_nil_of_le (by omega)]
  refine (jqy (s1:=?s1) (qw_ ?h1)).trans ?r1
  case h1=>simp[qw,hlt,V_c,cC];rfl
  case r1=>simp[keep,initC,stays]
 | k +1,i,cls,h,hs=>by
  have hlt:i<c.inits.length:=by omega
  have hltI:(i:Int)<c.st:=by omega
  have hli:=hc.inits
  have e2:IntKind.i64.wrap ((i:Int)+1)=((i+1:Nat):Int):=by rw[jqv (by omega) (by omega)];omega
  have hx:(c.inits.map I)[i]?=some (I c.inits[i]):=by simp[List.getElem?_eq_getElem hlt]
  have h1:=hin _ (List.getElem_mem hlt)
  have hrec:=fun cls' h'=>sc_l4 hc hst hin k (i+1) cls' (by omega) h'
  have hk:∀G:List GObj,runL pg q1l ⟨[(1,I (N:Int)),(2,B true),(3,B b3),(4,.ptr true gh.length 0),(8,.ptr false 0 0),(9,.ptr true (gh.length+1) 0),(10,.ptr true (gh.length+2) 0),(11,.fn 338 [.ptr true (gh.length+2) 0]),(12,.fn 339 [.ptr true (gh.length+1) 0,.ptr true gh.length 0]),(17,I (i:Int))],[[I 0,.sl true 1 []]],G⟩=some (.normal,⟨[(1,I (N:Int)),(2,B true),(3,B b3),(4,.ptr true gh.length 0),(8,.ptr false 0 0),(9,.ptr true (gh.length+1) 0),(10,.ptr true (gh.length+2) 0),(11,.fn 338 [.ptr true (gh.length+2) 0]),(12,.fn 339 [.ptr true (gh.length+1) 0,.ptr true gh.length 0]),(17,I ((i+1:Nat):Int))],[[I 0,.sl true 1 []]],G⟩):=fun G=>by
   refine qd0_ ?_
   simp[qd0,e2]
  rw[List.drop_eq_getElem_cons hlt,initC,←List.append_assoc]
  have hbit:=fun y=>ju3 (gh:=gh) (c:=c) (f:=f) (x:=y) (t:=0) (i:=(i:Int))
  generalize c.inits[i]=x at *
  generalize stE f c.inp 0 i=n at *
  by_cases x0:x=0
  ·subst x0
   rw[if_pos ⟨rfl,by decide⟩,if_neg (by decide)]
   refine jqw (qw_ (s:=⟨[(1,I (N:Int)),(2,B true),(3,B b3),(4,.ptr true gh.length 0),(8,.ptr false 0 0),(9,.ptr true (gh.length+1) 0),(10,.ptr true (gh.length+2) 0),(11,.fn 338 [.ptr true (gh.length+2) 0]),(12,.fn 339 [.ptr true (gh.length+1) 0,.ptr true gh.length 0]),(17,I ((i+1:Nat):Int))],[[I 0,.sl true 1 []]],V gh c f (outO vars (LLI (cls++[[negI n]])))⟩) ?h2) (hrec _ (by simp;omega))
   case h2=>
    have ha:=jrs (gh:=gh) (c:=c) (f:=f) (vars:=vars) (cls:=cls) (l:=[negI n]) (by omega)
    have k5:∀y,runL pg qq ⟨[(1,I (N:Int)),(2,B true),(3,B b3),(4,.ptr true gh.length 0),(8,.ptr false 0 0),(9,.ptr true (gh.length+1) 0),(10,.ptr true (gh.length+2) 0),(11,.fn 338 [.ptr true (gh.length+2) 0]),(12,.fn 339 [.ptr true (gh.length+1) 0,.ptr true gh.length 0]),(17,I (i:Int))],[[I 0,.sl true 1 []]],V gh c f y⟩=some (.normal,⟨[(1,I (N:Int)),(2,B true),(3,B b3),(4,.ptr true gh.length 0),(8,.ptr false 0 0),(9,.ptr true (gh.length+1) 0),(10,.ptr true (gh.length+2) 0),(11,.fn 338 [.ptr true (gh.length+2) 0]),(12,.fn 339 [.ptr true (gh.length+1) 0,.ptr true gh.length 0]),(17,I (i:Int))],[[I 0,.sl true 1 []]],V gh c f y⟩):=fun y=>by
     refine q3o_ ?_
     simp[q3o,hx,V_c,cC,-List.getElem?_map]
    simp only[LI,List.map_cons,List.map_nil,negI] at ha ⊢
    generalize LLI (cls++[[IntKind.i64.wrap (-n)]])=C1 at *
    generalize LLI cls=C at *
    simp[qw,hltI,hx,V_c,cC,hbit,ha,k5,hk,show Nat.ble 1 1=true from rfl,-List.getElem?_map]
  by_cases x1:x=1
  ·subst x1
   rw[if_pos ⟨rfl,by decide⟩,if_pos rfl]
   refine jqw (qw_ (s:=⟨[(1,I (N:Int)),(2,B true),(3,B b3),(4,.ptr true gh.length 0),(8,.ptr false 0 0),(9,.ptr true (gh.length+1) 0),(10,.ptr true (gh.length+2) 0),(11,.fn 338 [.ptr true (gh.length+2) 0]),(12,.fn 339 [.ptr true (gh.length+1) 0,.ptr true gh.length 0]),(17,I ((i+1:Nat):Int))],[[I 0,.sl true 1 []]],V gh c f (outO vars (LLI (cls++[[n]])))⟩) ?h3) (hrec _ (by simp;omega))
   case h3=>
    have ha:=jrs (gh:=gh) (c:=c) (f:=f) (vars:=vars) (cls:=cls) (l:=[n]) (by omega)
    simp only[LI,List.map_cons,List.map_nil] at ha ⊢
    generalize LLI (cls++[[n]])=C1 at *
    generalize LLI cls=C at *
    have k5:runL pg qq ⟨[(1,I (N:Int)),(2,B true),(3,B b3),(4,.ptr true gh.length 0),(8,.ptr false 0 0),(9,.ptr true (gh.length+1) 0),(10,.ptr true (gh.length+2) 0),(11,.fn 338 [.ptr true (gh.length+2) 0]),(12,.fn 339 [.ptr true (gh.length+1) 0,.ptr true gh.length 0]),(17,I (i:Int))],[[I 0,.sl true 1 []]],V gh c f (outO vars C)⟩=some (.normal,⟨[(1,I (N:Int)),(2,B true),(3,B b3),(4,.ptr true gh.length 0),(8,.ptr false 0 0),(9,.ptr true (gh.length+1) 0),(10,.ptr true (gh.length+2) 0),(11,.fn 338 [.ptr true (gh.length+2) 0]),(12,.fn 339 [.ptr true (gh.length+1) 0,.ptr true gh.length 0]),(17,I (i:Int))],[[I 0,.sl true 1 []]],V gh c f (outO vars C1)⟩):=by
     refine q3o_ ?_
     simp[q3o,hx,V_c,cC,hbit,ha,-List.getElem?_map]
    simp[qw,hltI,hx,V_c,cC,k5,hk,show Nat.ble 1 1=true from rfl,-List.getElem?_map]
  ·rw[if_neg (by omega),List.append_nil]
   refine jqw (qw_ (s:=⟨[(1,I (N:Int)),(2,B true),(3,B b3),(4,.ptr true gh.length 0),(8,.ptr false 0 0),(9,.ptr true (gh.length+1) 0),(10,.ptr true (gh.length+2) 0),(11,.fn 338 [.ptr true (gh.length+2) 0]),(12,.fn 339 [.ptr true (gh.length+1) 0,.ptr true gh.length 0]),(17,I ((i+1:Nat):Int))],[[I 0,.sl true 1 []]],V gh c f (outO vars (LLI (cls)))⟩) ?h4) (hrec _ (by omega))
   case h4=>
    have k5:∀y,runL pg qq ⟨[(1,I (N:Int)),(2,B true),(3,B b3),(4,.ptr true gh.length 0),(8,.ptr false 0 0),(9,.ptr true (gh.length+1) 0),(10,.ptr true (gh.length+2) 0),(11,.fn 338 [.ptr true (gh.length+2) 0]),(12,.fn 339 [.ptr true (gh.length+1) 0,.ptr true gh.length 0]),(17,I (i:Int))],[[I 0,.sl true 1 []]],V gh c f y⟩=some (.normal,⟨[(1,I (N:Int)),(2,B true),(3,B b3),(4,.ptr true gh.length 0),(8,.ptr false 0 0),(9,.ptr true (gh.length+1) 0),(10,.ptr true (gh.length+2) 0),(11,.fn 338 [.ptr true (gh.length+2) 0]),(12,.fn 339 [.ptr true (gh.length+1) 0,.ptr true gh.length 0]),(17,I (i:Int))],[[I 0,.sl true 1 []]],V gh c f y⟩):=fun y=>by
     refine q3o_ ?_
     simp[q3o,hx,x1,V_c,cC,-List.getElem?_map]
    generalize LLI cls=C at *
    simp[qw,hltI,hx,x0,V_c,cC,k5,hk,show Nat.ble 1 1=true from rfl,-List.getElem?_map]
theorem sc_l4n {cls:List (List Int)}:runL pg q1m ⟨[(1,I (N:Int)),(2,B false),(3,B b3),(4,.ptr true gh.length 0),(8,.ptr false 0 0),(9,.ptr true (gh.length+1) 0),(10,.ptr true (gh.length+2) 0),(11,.fn 338 [.ptr true (gh.length+2) 0]),(12,.fn 339 [.ptr true (gh.length+1) 0,.ptr true gh.length 0]),(17,I 0)],[[I 0,.sl true 1 []]],V gh c f (outO vars (LLI (cls)))⟩=some (.normal,⟨[(1,I (N:Int)),(3,B b3),(4,.ptr true gh.length 0),(8,.ptr false 0 0),(9,.ptr true (gh.length+1) 0),(10,.ptr true (gh.length+2) 0),(11,.fn 338 [.ptr true (gh.length+2) 0]),(12,.fn 339 [.ptr true (gh.length+1) 0,.ptr true gh.length 0])],[[I 0,.sl true 1 []]],V gh c f (outO vars (LLI (cls)))⟩):=by
 generalize LLI cls=C
 by_cases hlt:0<c.st
 ·refine (jqy (s1:=?s1) (qw_ ?h1)).trans ?r1
  case h1=>simp[qw,hlt,V_c,cC];rfl
  case r1=>simp[keep,stays]
 ·refine (jqy (s1:=?s2) (qw_ ?h2)).trans ?r2
  case h2=>simp[qw,hlt,V_c,cC];rfl
  case r2=>simp[keep,stays]
theorem sc_l6 (hc:CiS c) {t:Nat}:∀k i (cls:List (List Int)),i+k=c.holds.length→cls.length+k≤800000000→
  runL pg q5n ⟨[(1,I (N:Int)),(3,B b3),(4,.ptr true gh.length 0),(8,.ptr false 0 0),(9,.ptr true (gh.length+1) 0),(10,.ptr true (gh.length+2) 0),(11,.fn 338 [.ptr true (gh.length+2) 0]),(12,.fn 339 [.ptr true (gh.length+1) 0,.ptr true gh.length 0]),(18,I (t:Int)),(19,I (i:Int))],[[I 0,.sl true 1 []]],V gh c f (outO vars (LLI (cls)))⟩=some (.normal,⟨[(1,I (N:Int)),(3,B b3),(4,.ptr true gh.length 0),(8,.ptr false 0 0),(9,.ptr true (gh.length+1) 0),(10,.ptr true (gh.length+2) 0),(11,.fn 338 [.ptr true (gh.length+2) 0]),(12,.fn 339 [.ptr true (gh.length+1) 0,.ptr true gh.length 0]),(18,I (t:Int))],[[I 0,.sl true 1 []]],V gh c f (outO vars (LLI (cls++rootsC (IntKind.i64.wrap ((t:Int)*f)) (c.holds.drop i))))⟩)
 |0,i,cls,h,_=>by
  have hlt:¬i<c.holds.length:=by omega
  rw[List.drop_eq_nil_of_le (by omega)]
  refine (jqy (s1:=?s1) (q84_ ?h1)).trans ?r1
  case h1=>simp[q84,hlt,V_c,cC];rfl
  case r1=>simp[keep,rootsC,stays]
 | k+1,i,cls,h,hs=>by
  have hlt:i<c.holds.length:=by omega
  have hli:=hc.holds
  have hltD:decide (i<c.holds.length)=true:=decide_eq_true hlt
  have e2:IntKind.i64.wrap ((i:Int)+1)=((i+1:Nat):Int):=by rw[jqv (by omega) (by omega)];omega
  have hx:(c.holds.map I)[i]?=some (I c.holds[i]):=by simp[List.getElem?_eq_getElem hlt]
  have hLl:(c.holds.map I).length=c.holds.length:=List.length_map _
  have hrec:=fun cls' h'=>sc_l6 (t:=t) hc k (i+1) cls' (by omega) h'
  rw[List.drop_eq_getElem_cons hlt,rootsC,←List.append_assoc]
  generalize c.holds[i]=x at *
  have hm:=fun G=>j15m (gh:=G) (r:=x) (more:=IntKind.i64.wrap ((t:Int)*f))
  have hml:=jvd x (IntKind.i64.wrap ((t:Int)*f))
  refine jqw (q84_ (s:=⟨[(1,I (N:Int)),(3,B b3),(4,.ptr true gh.length 0),(8,.ptr false 0 0),(9,.ptr true (gh.length+1) 0),(10,.ptr true (gh.length+2) 0),(11,.fn 338 [.ptr true (gh.length+2) 0]),(12,.fn 339 [.ptr true (gh.length+1) 0,.ptr true gh.length 0]),(18,I (t:Int)),(19,I ((i+1:Nat):Int))],[[I 0,.sl true 1 []]],V gh c f (outO vars (LLI (cls++mustC x (IntKind.i64.wrap ((t:Int)*f)))))⟩) ?h2) (hrec _ (by rw[List.length_append];omega))
  case h2=>
   have hmx:=fits24 (n:=cls.length+(mustC x (IntKind.i64.wrap ((t:Int)*f))).length) (by omega)
   generalize mustC x (IntKind.i64.wrap ((t:Int)*f))=A at *
   have e3:LLI (cls++A)=LLI cls++LLI A:=by simp[LLI]
   have l1:(LLI cls).length=cls.length:=by simp[LLI]
   have l2:(LLI A).length=A.length:=by simp[LLI]
   rw[e3]
   generalize LLI A=M at *
   generalize LLI cls=C at *
   rw[←l1,←l2] at hmx
   have hrt:=fun (x:Option (IExit×St))=>jxt (x:=x) (V_rtP (gh:=gh) (c:=c) (f:=f) (vars:=vars) (L:=C) fun o=>hm _)
   simp[q84,hltD,hx,hLl,V_o,V_set,V_c,V_f,cC,hm,hrt,hmx,e2,spliceAt,-List.getElem?_map]
theorem sc_l5 (hc:CiS c) (hN:N≤40):∀k i (cls:List (List Int)),i+k=N+1→cls.length+1048576*k≤800000000→
  runL pg q5o ⟨[(1,I (N:Int)),(3,B b3),(4,.ptr true gh.length 0),(8,.ptr false 0 0),(9,.ptr true (gh.length+1) 0),(10,.ptr true (gh.length+2) 0),(11,.fn 338 [.ptr true (gh.length+2) 0]),(12,.fn 339 [.ptr true (gh.length+1) 0,.ptr true gh.length 0]),(18,I (i:Int))],[[I 0,.sl true 1 []]],V gh c f (outO vars (LLI (cls)))⟩=some (.normal,⟨[(1,I (N:Int)),(3,B b3),(4,.ptr true gh.length 0),(8,.ptr false 0 0),(9,.ptr true (gh.length+1) 0),(10,.ptr true (gh.length+2) 0),(11,.fn 338 [.ptr true (gh.length+2) 0]),(12,.fn 339 [.ptr true (gh.length+1) 0,.ptr true gh.length 0])],[[I 0,.sl true 1 []]],V gh c f (outO vars (LLI (cls++upto (holdG c f) i k)))⟩)
 |0,i,cls,h,_=>by
  have hlt:¬(i:Int)≤(N:Int):=by omega
  refine (jqy (s1:=?s1) (q85_ ?h1)).trans ?r1
  case h1=>simp[q85,hlt];rfl
  case r1=>simp[keep,upto,stays]
 | k+1,i,cls,h,hs=>by
  have hlt:(i:Int)≤(N:Int):=by omega
  have hli:=hc.holds
  have e2:IntKind.i64.wrap ((i:Int)+1)=((i+1:Nat):Int):=by rw[jqv (by omega) (by omega)];omega
  have hlen:(holdG c f i).length≤c.holds.length:=jsl _ _
  have hin:=sc_l6 (gh:=gh) (vars:=vars) (f:=f) (b3:=b3) (N:=N) (t:=i) hc c.holds.length 0 cls (by omega) (by omega)
  have hrec:=sc_l5 hc hN k (i+1) (cls++holdG c f i) (by omega) (by rw[List.length_append];omega)
  have hk:∀G:List GObj,runL pg q2k ⟨[(1,I (N:Int)),(3,B b3),(4,.ptr true gh.length 0),(8,.ptr false 0 0),(9,.ptr true (gh.length+1) 0),(10,.ptr true (gh.length+2) 0),(11,.fn 338 [.ptr true (gh.length+2) 0]),(12,.fn 339 [.ptr true (gh.length+1) 0,.ptr true gh.length 0]),(18,I (i:Int))],[[I 0,.sl true 1 []]],G⟩=some (.normal,⟨[(1,I (N:Int)),(3,B b3),(4,.ptr true gh.length 0),(8,.ptr false 0 0),(9,.ptr true (gh.length+1) 0),(10,.ptr true (gh.length+2) 0),(11,.fn 338 [.ptr true (gh.length+2) 0]),(12,.fn 339 [.ptr true (gh.length+1) 0,.ptr true gh.length 0]),(18,I ((i+1:Nat):Int))],[[I 0,.sl true 1 []]],G⟩):=fun G=>by
   refine qd1_ ?_
   simp[qd1,e2]
  rw[List.drop_zero] at hin
  rw[upto,←List.append_assoc]
  refine jqw (q85_ (s:=⟨[(1,I (N:Int)),(3,B b3),(4,.ptr true gh.length 0),(8,.ptr false 0 0),(9,.ptr true (gh.length+1) 0),(10,.ptr true (gh.length+2) 0),(11,.fn 338 [.ptr true (gh.length+2) 0]),(12,.fn 339 [.ptr true (gh.length+1) 0,.ptr true gh.length 0]),(18,I ((i+1:Nat):Int))],[[I 0,.sl true 1 []]],V gh c f (outO vars (LLI (cls++holdG c f i)))⟩) ?h2) hrec
  case h2=>
   unfold holdG at *
   simp only[Int.natCast_zero] at hin
   generalize LLI (cls++rootsC (IntKind.i64.wrap ((i:Int)*f)) c.holds)=C1 at *
   generalize LLI cls=C at *
   simp[q85,hlt,hin,hk,show Nat.ble 1 1=true from rfl]
theorem sc_l7 (hc:CiS c):∀k i (acc:List Int),i+k=c.bads.length→acc.length≤i→
  runL pg q5p ⟨[(1,I (N:Int)),(3,B b3),(4,.ptr true gh.length 0),(8,.ptr false 0 0),(9,.ptr true (gh.length+1) 0),(10,.ptr true (gh.length+2) 0),(11,.fn 338 [.ptr true (gh.length+2) 0]),(12,.fn 339 [.ptr true (gh.length+1) 0,.ptr true gh.length 0]),(20,.sl true 1 (acc.map I)),(21,I (i:Int))],[[I 0,.sl true 1 []]],V gh c f x⟩=some (.normal,⟨[(1,I (N:Int)),(3,B b3),(4,.ptr true gh.length 0),(8,.ptr false 0 0),(9,.ptr true (gh.length+1) 0),(10,.ptr true (gh.length+2) 0),(11,.fn 338 [.ptr true (gh.length+2) 0]),(12,.fn 339 [.ptr true (gh.length+1) 0,.ptr true gh.length 0]),(20,.sl true 1 ((acc++badL (IntKind.i64.wrap ((N:Int)*f)) (c.bads.drop i)).map I))],[[I 0,.sl true 1 []]],V gh c f x⟩)
 |0,i,acc,h,_=>by
  have hlt:¬i<c.bads.length:=by omega
  rw[List.drop_eq_nil_of_le (by omega)]
  refine (jqy (s1:=?s1) (q3p_ ?h1)).trans ?r1
  case h1=>simp[q3p,hlt,V_c,cC];rfl
  case r1=>simp[keep,badL,stays]
 | k+1,i,acc,h,ha=>by
  have hlt:i<c.bads.length:=by omega
  have hli:=hc.bads
  have hltD:decide (i<c.bads.length)=true:=decide_eq_true hlt
  have hm:maxBytes=140737488355328:=rfl
  have e2:IntKind.i64.wrap ((i:Int)+1)=((i+1:Nat):Int):=by rw[jqv (by omega) (by omega)];omega
  have hx':(c.bads.map I)[i]?=some (I c.bads[i]):=by simp[List.getElem?_eq_getElem hlt]
  have hLl:(c.bads.map I).length=c.bads.length:=List.length_map _
  have hrec:=fun acc' h'=>sc_l7 hc k (i+1) acc' (by omega) h'
  rw[List.drop_eq_getElem_cons hlt,badL]
  generalize c.bads[i]=z at *
  have hN':=fun G=>Num_eq z (IntKind.i64.wrap ((N:Int)*f)) G
  have hk:∀A:List PV,runL pg q1n ⟨[(1,I (N:Int)),(3,B b3),(4,.ptr true gh.length 0),(8,.ptr false 0 0),(9,.ptr true (gh.length+1) 0),(10,.ptr true (gh.length+2) 0),(11,.fn 338 [.ptr true (gh.length+2) 0]),(12,.fn 339 [.ptr true (gh.length+1) 0,.ptr true gh.length 0]),(20,.sl true 1 A),(21,I (i:Int))],[[I 0,.sl true 1 []]],V gh c f x⟩=some (.normal,⟨[(1,I (N:Int)),(3,B b3),(4,.ptr true gh.length 0),(8,.ptr false 0 0),(9,.ptr true (gh.length+1) 0),(10,.ptr true (gh.length+2) 0),(11,.fn 338 [.ptr true (gh.length+2) 0]),(12,.fn 339 [.ptr true (gh.length+1) 0,.ptr true gh.length 0]),(20,.sl true 1 A),(21,I ((i+1:Nat):Int))],[[I 0,.sl true 1 []]],V gh c f x⟩):=fun A=>by
   refine qd2_ ?_
   simp[qd2,e2]
  by_cases z0:z=0
  ·rw[if_pos z0]
   refine jqw (q3p_ (s:=⟨[(1,I (N:Int)),(3,B b3),(4,.ptr true gh.length 0),(8,.ptr false 0 0),(9,.ptr true (gh.length+1) 0),(10,.ptr true (gh.length+2) 0),(11,.fn 338 [.ptr true (gh.length+2) 0]),(12,.fn 339 [.ptr true (gh.length+1) 0,.ptr true gh.length 0]),(20,.sl true 1 (acc.map I)),(21,I ((i+1:Nat):Int))],[[I 0,.sl true 1 []]],V gh c f x⟩) ?h2) (hrec acc (by omega))
   case h2=>simp[q3p,hltD,hx',z0,hLl,V_c,cC,hk,show Nat.ble 1 1=true from rfl,-List.getElem?_map]
  ·rw[if_neg z0]
   have hr:=hrec (acc++[numE z (IntKind.i64.wrap ((N:Int)*f))]) (by simp;omega)
   rw[List.append_assoc,List.cons_append,List.nil_append] at hr
   refine jqw (q3p_ (s:=⟨[(1,I (N:Int)),(3,B b3),(4,.ptr true gh.length 0),(8,.ptr false 0 0),(9,.ptr true (gh.length+1) 0),(10,.ptr true (gh.length+2) 0),(11,.fn 338 [.ptr true (gh.length+2) 0]),(12,.fn 339 [.ptr true (gh.length+1) 0,.ptr true gh.length 0]),(20,.sl true 1 ((acc++[numE z (IntKind.i64.wrap ((N:Int)*f))]).map I)),(21,I ((i+1:Nat):Int))],[[I 0,.sl true 1 []]],V gh c f x⟩) ?h3) hr
   case h3=>
    have hmx:(acc.length+1)*8≤maxBytes:=by omega
    generalize numE z (IntKind.i64.wrap ((N:Int)*f))=A at *
    rw[List.map_append]
    simp only[List.map_cons,List.map_nil]
    simp[q3p,hltD,hx',z0,hLl,V_c,V_f,cC,hN',hmx,hk,show Nat.ble 1 1=true from rfl,-List.getElem?_map]
theorem sc_k9 (hc:CiS c) {cls:List (List Int)} {s:St} (hs:cls.length≤800000000)
  (hk:runL pg qr ⟨[(1,I (N:Int)),(3,B b3),(4,.ptr true gh.length 0),(8,.ptr false 0 0),(9,.ptr true (gh.length+1) 0),(10,.ptr true (gh.length+2) 0),(11,.fn 338 [.ptr true (gh.length+2) 0]),(12,.fn 339 [.ptr true (gh.length+1) 0,.ptr true gh.length 0])],[[I 0,.sl true 1 []]],V gh c f (outO vars (LLI (cls++badC (IntKind.i64.wrap ((N:Int)*f)) c.bads)))⟩=some (.ret,s)):runL pg q2r ⟨[(1,I (N:Int)),(3,B b3),(4,.ptr true gh.length 0),(8,.ptr false 0 0),(9,.ptr true (gh.length+1) 0),(10,.ptr true (gh.length+2) 0),(11,.fn 338 [.ptr true (gh.length+2) 0]),(12,.fn 339 [.ptr true (gh.length+1) 0,.ptr true gh.length 0])],[[I 0,.sl true 1 []]],V gh c f (outO vars (LLI (cls)))⟩=some (.ret,s):=by
 have hH:=fun G=>j15w (gh:=G) (l:=c.bads) (n:=1) (by have:=hc.bads;simp only[Sz];omega)
 unfold badC at hk
 refine q8a_ ?_
 by_cases h1:1∈c.bads
 ·rw[if_pos h1,List.append_nil] at hk
  rw[decide_eq_true h1] at hH
  generalize LLI cls=C at *
  simp only[LI] at hH
  simp[q8a,V_c,cC,hH,hk]
 ·rw[if_neg h1] at hk
  rw[decide_eq_false h1] at hH
  have hmx:=fits24 (n:=cls.length+1) (by omega)
  have h7:=fun y=>sc_l7 (gh:=gh) (c:=c) (f:=f) (N:=N) (b3:=b3) (x:=y) hc c.bads.length 0 [] (by omega) (by simp)
  rw[List.drop_zero,List.nil_append] at h7
  simp only[Int.natCast_zero,List.map_nil] at h7
  generalize badL (IntKind.i64.wrap ((N:Int)*f)) c.bads=L at *
  have e3:LLI (cls++[L])=LLI cls++[LI L]:=by simp[LLI]
  have l1:(LLI cls).length=cls.length:=by simp[LLI]
  rw[e3] at hk
  generalize LLI cls=C at *
  rw[←l1] at hmx
  have h11:runL pg q2l ⟨[(1,I (N:Int)),(3,B b3),(4,.ptr true gh.length 0),(8,.ptr false 0 0),(9,.ptr true (gh.length+1) 0),(10,.ptr true (gh.length+2) 0),(11,.fn 338 [.ptr true (gh.length+2) 0]),(12,.fn 339 [.ptr true (gh.length+1) 0,.ptr true gh.length 0]),(20,.sl true 1 (L.map I))],[[I 0,.sl true 1 []]],V gh c f (outO vars C)⟩=some (.normal,⟨[(1,I (N:Int)),(3,B b3),(4,.ptr true gh.length 0),(8,.ptr false 0 0),(9,.ptr true (gh.length+1) 0),(10,.ptr true (gh.length+2) 0),(11,.fn 338 [.ptr true (gh.length+2) 0]),(12,.fn 339 [.ptr true (gh.length+1) 0,.ptr true gh.length 0])],[[I 0,.sl true 1 []]],V gh c f (outO vars (C++[LI L]))⟩):=by
   refine qd3_ ?_
   simp[qd3,V_o,V_set,hmx,spliceAt]
  simp only[LI] at hH h11 hk
  simp[q8a,V_c,cC,hH,h7,h11,hk,show Nat.ble 1 1=true from rfl]
theorem j15y {s:St} (hc:CiS c) (hN:N≤40) (hst:c.st=(c.nexts.length:Int)) (hsi:c.st=(c.inits.length:Int)) (hnn:∀x∈c.nexts,0≤x) (hin:begun=true→∀x∈c.inits,x≤1)
  (hf:frE c=f) (hv:IntKind.i64.wrap (f*((N+1:Nat):Int))=vars)
  (hk:runL pg qr ⟨[(1,I (N:Int)),(3,B b3),(4,.ptr true gh.length 0),(8,.ptr false 0 0),(9,.ptr true (gh.length+1) 0),(10,.ptr true (gh.length+2) 0),(11,.fn 338 [.ptr true (gh.length+2) 0]),(12,.fn 339 [.ptr true (gh.length+1) 0,.ptr true gh.length 0])],[[I 0,.sl true 1 []]],V gh c f (outO vars (LLI (rawC c f N begun)))⟩=some (.ret,s)) :
  runL pg q5v ⟨[(0,ciV c),(1,I (N:Int)),(2,B begun),(3,B b3)],[],gh⟩=some (.ret,s):=by
 have e1:IntKind.i64.wrap ((N:Int)+1)=((N+1:Nat):Int):=by rw[jqv (by omega) (by omega)];omega
 have l1:=sc_l1 (gh:=gh) (vars:=vars) (f:=f) (begun:=begun) (b3:=b3) hc hN (N+1) 0 [] (by omega) (by simp;omega)
 have n1:(upto (andsG c f) 0 (N+1)).length≤3000000*(N+1):=jrf (fun i=>by have:=hc.ands;rw[jsk];omega) _ _
 rw[List.nil_append] at l1
 generalize h1:upto (andsG c f) 0 (N+1)=A1 at *
 have l2:=sc_l2 (gh:=gh) (vars:=vars) (f:=f) (begun:=begun) (b3:=b3) hc hN hst hnn N 1 A1 (by omega) (by omega)
 have n2:(upto (bindG c f) 1 N).length≤2097152*N:=jrf (fun i=>by have:=hc.nexts;have:=jsm f c.inp i 0 c.nexts;show (bindC f c.inp i 0 c.nexts).length≤_;omega) _ _
 generalize h2:upto (bindG c f) 1 N=A2 at *
 have n3:=ju0 f c.inp begun 0 c.inits
 have l3:runL pg q1m ⟨[(1,I (N:Int)),(2,B begun),(3,B b3),(4,.ptr true gh.length 0),(8,.ptr false 0 0),(9,.ptr true (gh.length+1) 0),(10,.ptr true (gh.length+2) 0),(11,.fn 338 [.ptr true (gh.length+2) 0]),(12,.fn 339 [.ptr true (gh.length+1) 0,.ptr true gh.length 0]),(17,I 0)],[[I 0,.sl true 1 []]],V gh c f (outO vars (LLI (A1++A2)))⟩=some (.normal,⟨[(1,I (N:Int)),(3,B b3),(4,.ptr true gh.length 0),(8,.ptr false 0 0),(9,.ptr true (gh.length+1) 0),(10,.ptr true (gh.length+2) 0),(11,.fn 338 [.ptr true (gh.length+2) 0]),(12,.fn 339 [.ptr true (gh.length+1) 0,.ptr true gh.length 0])],[[I 0,.sl true 1 []]],V gh c f (outO vars (LLI (A1++A2++initC f c.inp begun 0 c.inits)))⟩):=by
  cases begun with
  |true=>
   have h:=sc_l4 (gh:=gh) (vars:=vars) (f:=f) (b3:=b3) (N:=N) hc hsi (hin rfl) c.inits.length 0 (A1++A2) (by omega) (by have:=hc.inits;rw[List.length_append];omega)
   rw[List.drop_zero] at h
   exact h
  |false=>
   rw[jze,List.append_nil]
   exact sc_l4n
 generalize h3:initC f c.inp begun 0 c.inits=A3 at *
 have l4:=sc_l5 (gh:=gh) (vars:=vars) (f:=f) (b3:=b3) hc hN (N+1) 0 (A1++A2++A3) (by omega) (by have:=hc.inits;simp only[List.length_append];omega)
 have n4:(upto (holdG c f) 0 (N+1)).length≤1048576*(N+1):=jrf (fun i=>by have:=hc.holds;have:=jsl (IntKind.i64.wrap ((i:Int)*f)) c.holds;show (rootsC _ c.holds).length≤_;omega) _ _
 generalize h4:upto (holdG c f) 0 (N+1)=A4 at *
 have hR:rawC c f N begun=A1++A2++A3++A4++badC (IntKind.i64.wrap ((N:Int)*f)) c.bads:=by rw[rawC,h1,h2,h3,h4]
 rw[hR] at hk
 have k9:=sc_k9 hc (by have:=hc.inits;simp only[List.length_append];omega) hk
 clear hk hR h1 h2 h3 h4 n1 n2 n3 n4
 simp only[Int.natCast_zero,Int.natCast_one] at l1 l2 l4
 have hg0:V gh c f (outO vars (LLI []))=gh++[.cells (cC c),.cells [I f],.cells [I vars,.sl true 1 []]]:=rfl
 generalize ((N+1:Nat):Int)=M at *
 generalize V gh c f (outO vars (LLI (A1++A2++A3++A4)))=g4 at *
 generalize V gh c f (outO vars (LLI (A1++A2++A3)))=g3 at *
 generalize V gh c f (outO vars (LLI (A1++A2)))=g2 at *
 generalize V gh c f (outO vars (LLI A1))=g1 at *
 rw[hg0] at l1
 have k7:runL pg q2s ⟨[(1,I (N:Int)),(3,B b3),(4,.ptr true gh.length 0),(8,.ptr false 0 0),(9,.ptr true (gh.length+1) 0),(10,.ptr true (gh.length+2) 0),(11,.fn 338 [.ptr true (gh.length+2) 0]),(12,.fn 339 [.ptr true (gh.length+1) 0,.ptr true gh.length 0])],[[I 0,.sl true 1 []]],g3⟩=some (.ret,s):=by
  refine qdc_ ?_
  simp[qdc,l4,k9]
 have k4:runL pg q2t ⟨[(1,I (N:Int)),(2,B begun),(3,B b3),(4,.ptr true gh.length 0),(8,.ptr false 0 0),(9,.ptr true (gh.length+1) 0),(10,.ptr true (gh.length+2) 0),(11,.fn 338 [.ptr true (gh.length+2) 0]),(12,.fn 339 [.ptr true (gh.length+1) 0,.ptr true gh.length 0])],[[I 0,.sl true 1 []]],g2⟩=some (.ret,s):=by
  refine qdd_ ?_
  simp[qdd,l3,k7]
 have k1:runL pg q2u ⟨[(1,I (N:Int)),(2,B begun),(3,B b3),(4,.ptr true gh.length 0),(8,.ptr false 0 0),(9,.ptr true (gh.length+1) 0),(10,.ptr true (gh.length+2) 0),(11,.fn 338 [.ptr true (gh.length+2) 0]),(12,.fn 339 [.ptr true (gh.length+1) 0,.ptr true gh.length 0])],[[I 0,.sl true 1 []]],g1⟩=some (.ret,s):=by
  refine qde_ ?_
  simp[qde,l2,k4]
 refine qdf_ ?_
 unfold frE at hf
 unfold cC at l1
 simp only[LI] at l1
 simp[qdf,hf,e1,hv,l1,k1,spliceAt]
end
end Go.Lw
end

/-! Proving by steps: what the document's StepClauses come to when steps are to differ. -/
section
namespace Go.Lw
open Go
section
variable {gh:List GObj} {c:Ci} {f vars:Int} {N:Nat} {b3:Bool} {x y:GObj}
theorem sd_l9 (hc:CiS c) {t:Nat}:∀k i (cls:List (List Int)),i+k=c.bads.length→cls.length+k≤900000000→
  runL pg q5q ⟨[(1,I (N:Int)),(4,.ptr true gh.length 0),(8,.ptr false 0 0),(9,.ptr true (gh.length+1) 0),(10,.ptr true (gh.length+2) 0),(11,.fn 338 [.ptr true (gh.length+2) 0]),(12,.fn 339 [.ptr true (gh.length+1) 0,.ptr true gh.length 0]),(22,I (t:Int)),(23,I (i:Int))],[[I 0,.sl true 1 []]],V gh c f (outO vars (LLI (cls)))⟩=some (.normal,⟨[(1,I (N:Int)),(4,.ptr true gh.length 0),(8,.ptr false 0 0),(9,.ptr true (gh.length+1) 0),(10,.ptr true (gh.length+2) 0),(11,.fn 338 [.ptr true (gh.length+2) 0]),(12,.fn 339 [.ptr true (gh.length+1) 0,.ptr true gh.length 0]),(22,I (t:Int))],[[I 0,.sl true 1 []]],V gh c f (outO vars (LLI (cls++goodC (IntKind.i64.wrap ((t:Int)*f)) (c.bads.drop i))))⟩)
 |0,i,cls,h,_=>by
  have hlt:¬i<c.bads.length:=by omega
  rw[List.drop_eq_nil_of_le (by omega)]
  refine (jqy (s1:=?s1) (q28_ ?h1)).trans ?r1
  case h1=>simp[q28,hlt,V_c,cC];rfl
  case r1=>simp[keep,goodC,stays]
 | k+1,i,cls,h,hs=>by
  have hlt:i<c.bads.length:=by omega
  have hli:=hc.bads
  have hltD:decide (i<c.bads.length)=true:=decide_eq_true hlt
  have e2:IntKind.i64.wrap ((i:Int)+1)=((i+1:Nat):Int):=by rw[jqv (by omega) (by omega)];omega
  have hx':(c.bads.map I)[i]?=some (I c.bads[i]):=by simp[List.getElem?_eq_getElem hlt]
  have hLl:(c.bads.map I).length=c.bads.length:=List.length_map _
  have hrec:=fun cls' h'=>sd_l9 (t:=t) hc k (i+1) cls' (by omega) h'
  rw[List.drop_eq_getElem_cons hlt,goodC,←List.append_assoc]
  generalize c.bads[i]=z at *
  have hgl:=jvg (IntKind.i64.wrap ((t:Int)*f)) z
  have hk:∀C:List PV,runL pg q10 ⟨[(1,I (N:Int)),(4,.ptr true gh.length 0),(8,.ptr false 0 0),(9,.ptr true (gh.length+1) 0),(10,.ptr true (gh.length+2) 0),(11,.fn 338 [.ptr true (gh.length+2) 0]),(12,.fn 339 [.ptr true (gh.length+1) 0,.ptr true gh.length 0]),(22,I (t:Int)),(23,I (i:Int))],[[I 0,.sl true 1 []]],V gh c f (outO vars C)⟩=some (.normal,⟨[(1,I (N:Int)),(4,.ptr true gh.length 0),(8,.ptr false 0 0),(9,.ptr true (gh.length+1) 0),(10,.ptr true (gh.length+2) 0),(11,.fn 338 [.ptr true (gh.length+2) 0]),(12,.fn 339 [.ptr true (gh.length+1) 0,.ptr true gh.length 0]),(22,I (t:Int)),(23,I ((i+1:Nat):Int))],[[I 0,.sl true 1 []]],V gh c f (outO vars C)⟩):=fun C=>by
   refine qd4_ ?_
   simp[qd4,e2]
  refine jqw (q28_ (s:=⟨[(1,I (N:Int)),(4,.ptr true gh.length 0),(8,.ptr false 0 0),(9,.ptr true (gh.length+1) 0),(10,.ptr true (gh.length+2) 0),(11,.fn 338 [.ptr true (gh.length+2) 0]),(12,.fn 339 [.ptr true (gh.length+1) 0,.ptr true gh.length 0]),(22,I (t:Int)),(23,I ((i+1:Nat):Int))],[[I 0,.sl true 1 []]],V gh c f (outO vars (LLI (cls++good1 (IntKind.i64.wrap ((t:Int)*f)) z)))⟩) ?h2) (hrec _ (by rw[List.length_append];omega))
  case h2=>
   unfold good1
   by_cases z0:z=0
   ·rw[if_pos z0,List.append_nil]
    generalize LLI cls=C at *
    simp[q28,hltD,hx',z0,hLl,V_c,cC,hk,show Nat.ble 1 1=true from rfl,-List.getElem?_map]
   rw[if_neg z0]
   by_cases z1:z=1
   ·rw[if_pos z1]
    have ha:=jrs (gh:=gh) (c:=c) (f:=f) (vars:=vars) (cls:=cls) (l:=[]) (by omega)
    simp only[LI,List.map_nil] at ha ⊢
    generalize LLI (cls++[[]])=C1 at *
    generalize LLI cls=C at *
    simp[q28,hltD,hx',z1,hLl,V_c,cC,ha,hk,show Nat.ble 1 1=true from rfl,-List.getElem?_map]
   ·rw[if_neg z1]
    have hN':=fun G=>Num_eq z (IntKind.i64.wrap ((t:Int)*f)) G
    generalize numE z (IntKind.i64.wrap ((t:Int)*f))=A at *
    have ha:=jrs (gh:=gh) (c:=c) (f:=f) (vars:=vars) (cls:=cls) (l:=[negI A]) (by omega)
    simp only[LI,List.map_cons,List.map_nil,negI] at ha ⊢
    generalize LLI (cls++[[IntKind.i64.wrap (-A)]])=C1 at *
    generalize LLI cls=C at *
    simp[q28,hltD,hx',z0,z1,hLl,V_c,V_f,cC,hN',ha,hk,show Nat.ble 1 1=true from rfl,-List.getElem?_map]
theorem sd_l8 (hc:CiS c) (hN:N≤40):∀k i (cls:List (List Int)),i+k=N→cls.length+1048576*k≤850000000→
  runL pg q5r ⟨[(1,I (N:Int)),(4,.ptr true gh.length 0),(8,.ptr false 0 0),(9,.ptr true (gh.length+1) 0),(10,.ptr true (gh.length+2) 0),(11,.fn 338 [.ptr true (gh.length+2) 0]),(12,.fn 339 [.ptr true (gh.length+1) 0,.ptr true gh.length 0]),(22,I (i:Int))],[[I 0,.sl true 1 []]],V gh c f (outO vars (LLI (cls)))⟩=some (.normal,⟨[(1,I (N:Int)),(4,.ptr true gh.length 0),(8,.ptr false 0 0),(10,.ptr true (gh.length+2) 0),(11,.fn 338 [.ptr true (gh.length+2) 0]),(12,.fn 339 [.ptr true (gh.length+1) 0,.ptr true gh.length 0])],[[I 0,.sl true 1 []]],V gh c f (outO vars (LLI (cls++upto (goodG c f) i k)))⟩)
 |0,i,cls,h,_=>by
  have hlt:¬(i:Int)<(N:Int):=by omega
  refine (jqy (s1:=?s1) (q86_ ?h1)).trans ?r1
  case h1=>simp[q86,hlt];rfl
  case r1=>simp[keep,upto,stays]
 | k+1,i,cls,h,hs=>by
  have hlt:(i:Int)<(N:Int):=by omega
  have hli:=hc.bads
  have e2:IntKind.i64.wrap ((i:Int)+1)=((i+1:Nat):Int):=by rw[jqv (by omega) (by omega)];omega
  have hlen:(goodG c f i).length≤c.bads.length:=jsn _ _
  have hin:=sd_l9 (gh:=gh) (vars:=vars) (f:=f) (N:=N) (t:=i) hc c.bads.length 0 cls (by omega) (by omega)
  have hrec:=sd_l8 hc hN k (i+1) (cls++goodG c f i) (by omega) (by rw[List.length_append];omega)
  have hk:∀G:List GObj,runL pg q2m ⟨[(1,I (N:Int)),(4,.ptr true gh.length 0),(8,.ptr false 0 0),(9,.ptr true (gh.length+1) 0),(10,.ptr true (gh.length+2) 0),(11,.fn 338 [.ptr true (gh.length+2) 0]),(12,.fn 339 [.ptr true (gh.length+1) 0,.ptr true gh.length 0]),(22,I (i:Int))],[[I 0,.sl true 1 []]],G⟩=some (.normal,⟨[(1,I (N:Int)),(4,.ptr true gh.length 0),(8,.ptr false 0 0),(9,.ptr true (gh.length+1) 0),(10,.ptr true (gh.length+2) 0),(11,.fn 338 [.ptr true (gh.length+2) 0]),(12,.fn 339 [.ptr true (gh.length+1) 0,.ptr true gh.length 0]),(22,I ((i+1:Nat):Int))],[[I 0,.sl true 1 []]],G⟩):=fun G=>by
   refine qd5_ ?_
   simp[qd5,e2]
  rw[List.drop_zero] at hin
  rw[upto,←List.append_assoc]
  refine jqw (q86_ (s:=⟨[(1,I (N:Int)),(4,.ptr true gh.length 0),(8,.ptr false 0 0),(9,.ptr true (gh.length+1) 0),(10,.ptr true (gh.length+2) 0),(11,.fn 338 [.ptr true (gh.length+2) 0]),(12,.fn 339 [.ptr true (gh.length+1) 0,.ptr true gh.length 0]),(22,I ((i+1:Nat):Int))],[[I 0,.sl true 1 []]],V gh c f (outO vars (LLI (cls++goodG c f i)))⟩) ?h2) hrec
  case h2=>
   unfold goodG at *
   simp only[Int.natCast_zero] at hin
   generalize LLI (cls++goodC (IntKind.i64.wrap ((i:Int)*f)) c.bads)=C1 at *
   generalize LLI cls=C at *
   simp[q86,hlt,hin,hk,show Nat.ble 1 1=true from rfl]
theorem sd_l12 {t u:Nat} {st:Nat} (hst:c.st=(st:Int)) (hl:st≤1048576):∀k i (cls:List (List Int)) (v:Int) (acc:List Int),i+k=st→cls.length+2*k≤6000000000→acc.length≤i→
  runL pg q5s ⟨[(1,I (N:Int)),(4,.ptr true gh.length 0),(8,.ptr false 0 0),(10,.ptr true (gh.length+2) 0),(11,.fn 338 [.ptr true (gh.length+2) 0]),(12,.fn 339 [.ptr true (gh.length+1) 0,.ptr true gh.length 0]),(24,I (t:Int)),(25,I (u:Int)),(26,.sl true 1 (acc.map I)),(27,I (i:Int))],[[I 0,.sl true 1 []]],V gh c f (outO v (LLI (cls)))⟩=some (.normal,⟨[(1,I (N:Int)),(4,.ptr true gh.length 0),(8,.ptr false 0 0),(10,.ptr true (gh.length+2) 0),(11,.fn 338 [.ptr true (gh.length+2) 0]),(12,.fn 339 [.ptr true (gh.length+1) 0,.ptr true gh.length 0]),(24,I (t:Int)),(25,I (u:Int)),(26,.sl true 1 ((acc++diffL k v).map I))],[[I 0,.sl true 1 []]],V gh c f (outO (diffV k v) (LLI (cls++diffC f c.inp t u i k v)))⟩)
 |0,i,cls,v,acc,h,_,_=>by
  have hlt:¬(i:Int)<(st:Int):=by omega
  refine (jqy (s1:=?s1) (q87_ ?h1)).trans ?r1
  case h1=>simp[q87,hlt,V_c,cC,hst];rfl
  case r1=>simp[keep,diffC,diffL,diffV,stays]
 | k+1,i,cls,v,acc,h,hs,ha=>by
  have hm8:maxBytes=140737488355328:=rfl
  have hltI:(i:Int)<(st:Int):=by omega
  have e2:IntKind.i64.wrap ((i:Int)+1)=((i+1:Nat):Int):=by rw[jqv (by omega) (by omega)];omega
  have hrec:=sd_l12 (t:=t) (u:=u) hst hl k (i+1) (cls++[[negI (w1 v),stE f c.inp t i,stE f c.inp u i],[negI (w1 v),negI (stE f c.inp t i),negI (stE f c.inp u i)]]) (w1 v) (acc++[w1 v]) (by omega) (by simp;omega) (by simp;omega)
  rw[List.append_assoc,List.append_assoc,List.cons_append,List.cons_append,List.cons_append,List.nil_append,List.nil_append] at hrec
  rw[diffC,diffL,diffV]
  refine jqw (q87_ (s:=⟨[(1,I (N:Int)),(4,.ptr true gh.length 0),(8,.ptr false 0 0),(10,.ptr true (gh.length+2) 0),(11,.fn 338 [.ptr true (gh.length+2) 0]),(12,.fn 339 [.ptr true (gh.length+1) 0,.ptr true gh.length 0]),(24,I (t:Int)),(25,I (u:Int)),(26,.sl true 1 ((acc++[w1 v]).map I)),(27,I ((i+1:Nat):Int))],[[I 0,.sl true 1 []]],V gh c f (outO (w1 v) (LLI (cls++[[negI (w1 v),stE f c.inp t i,stE f c.inp u i],[negI (w1 v),negI (stE f c.inp t i),negI (stE f c.inp u i)]])))⟩) ?h2) hrec
  case h2=>
   have hmx:(acc.length+1)*8≤maxBytes:=by omega
   have hb1:=fun y=>ju3 (gh:=gh) (c:=c) (f:=f) (x:=y) (t:=(t:Int)) (i:=(i:Int))
   have hb2:=fun y=>ju3 (gh:=gh) (c:=c) (f:=f) (x:=y) (t:=(u:Int)) (i:=(i:Int))
   generalize stE f c.inp t i=a at *
   generalize stE f c.inp u i=b at *
   have ha1:=jrs (gh:=gh) (c:=c) (f:=f) (vars:=w1 v) (cls:=cls) (l:=[negI (w1 v),a,b]) (by omega)
   have ha2:=jrs (gh:=gh) (c:=c) (f:=f) (vars:=w1 v) (cls:=cls++[[negI (w1 v),a,b]]) (l:=[negI (w1 v),negI a,negI b]) (by simp;omega)
   rw[List.append_assoc] at ha2
   rw[List.map_append]
   simp only[LI,List.map_cons,List.map_nil,List.cons_append,List.nil_append] at ha1 ha2 ⊢
   generalize LLI (cls++[[negI (w1 v),a,b],[negI (w1 v),negI a,negI b]])=C2 at *
   generalize LLI (cls++[[negI (w1 v),a,b]])=C1 at *
   generalize LLI cls=C at *
   unfold negI w1 at *
   simp[q87,hltI,hst,V_c,V_o,V_set,cC,hb1,hb2,ha1,ha2,hmx,e2,spliceAt]
theorem sd_l11 {t st:Nat} (hst:c.st=(st:Int)) (hl:st≤1048576) (hN:N≤40):∀k u (s:Int×List (List Int)),u+k=N+1→s.2.length+2097153*k≤5900000000→
  runL pg q5t ⟨[(1,I (N:Int)),(4,.ptr true gh.length 0),(8,.ptr false 0 0),(10,.ptr true (gh.length+2) 0),(11,.fn 338 [.ptr true (gh.length+2) 0]),(12,.fn 339 [.ptr true (gh.length+1) 0,.ptr true gh.length 0]),(24,I (t:Int)),(25,I (u:Int))],[[I 0,.sl true 1 []]],V gh c f (outO s.1 (LLI (s.2)))⟩=some (.normal,⟨[(1,I (N:Int)),(4,.ptr true gh.length 0),(8,.ptr false 0 0),(10,.ptr true (gh.length+2) 0),(11,.fn 338 [.ptr true (gh.length+2) 0]),(12,.fn 339 [.ptr true (gh.length+1) 0,.ptr true gh.length 0]),(24,I (t:Int))],[[I 0,.sl true 1 []]],V gh c f (outO (rowS f c.inp st (t:Int) u k s).1 (LLI ((rowS f c.inp st (t:Int) u k s).2)))⟩)
 |0,u,s,h,_=>by
  have hlt:¬(u:Int)≤(N:Int):=by omega
  refine (jqy (s1:=?s1) (q88_ ?h1)).trans ?r1
  case h1=>simp[q88,hlt];rfl
  case r1=>simp[keep,rowS,stays]
 | k+1,u,s,h,hs=>by
  obtain⟨v,cls⟩:=s
  have hlt:(u:Int)≤(N:Int):=by omega
  have e2:IntKind.i64.wrap ((u:Int)+1)=((u+1:Nat):Int):=by rw[jqv (by omega) (by omega)];omega
  simp only at hs
  have hlen:=jvh (f:=f) (inp:=c.inp) (st:=st) (t:=(t:Int)) (u:=(u:Int)) (s:=(v,cls))
  simp only at hlen
  have hin:=sd_l12 (gh:=gh) (f:=f) (N:=N) (t:=t) (u:=u) hst hl st 0 cls v [] (by omega) (by omega) (by simp)
  have hrec:=sd_l11 (t:=t) hst hl hN k (u+1) (difS f c.inp st t u (v,cls)) (by omega) (by omega)
  have hk:∀G:List GObj,runL pg q1o ⟨[(1,I (N:Int)),(4,.ptr true gh.length 0),(8,.ptr false 0 0),(10,.ptr true (gh.length+2) 0),(11,.fn 338 [.ptr true (gh.length+2) 0]),(12,.fn 339 [.ptr true (gh.length+1) 0,.ptr true gh.length 0]),(24,I (t:Int)),(25,I (u:Int))],[[I 0,.sl true 1 []]],G⟩=some (.normal,⟨[(1,I (N:Int)),(4,.ptr true gh.length 0),(8,.ptr false 0 0),(10,.ptr true (gh.length+2) 0),(11,.fn 338 [.ptr true (gh.length+2) 0]),(12,.fn 339 [.ptr true (gh.length+1) 0,.ptr true gh.length 0]),(24,I (t:Int)),(25,I ((u+1:Nat):Int))],[[I 0,.sl true 1 []]],G⟩):=fun G=>by
   refine qd7_ ?_
   simp[qd7,e2]
  rw[rowS]
  refine jqw (q88_ (s:=⟨[(1,I (N:Int)),(4,.ptr true gh.length 0),(8,.ptr false 0 0),(10,.ptr true (gh.length+2) 0),(11,.fn 338 [.ptr true (gh.length+2) 0]),(12,.fn 339 [.ptr true (gh.length+1) 0,.ptr true gh.length 0]),(24,I (t:Int)),(25,I ((u+1:Nat):Int))],[[I 0,.sl true 1 []]],V gh c f (outO (difS f c.inp st t u (v,cls)).1 (LLI ((difS f c.inp st t u (v,cls)).2)))⟩) ?h2) hrec
  case h2=>
   unfold difS
   simp only
   rw[List.nil_append] at hin
   have hcl:(cls++diffC f c.inp t u 0 st v).length≤5000000000000:=by rw[List.length_append,ju1];omega
   rw[←List.append_assoc]
   generalize cls++diffC f c.inp t u 0 st v=cl2 at *
   generalize diffV st v=v2 at *
   generalize diffL st v=L at *
   have hmx:=fits24 (n:=cl2.length+1) (by omega)
   have e3:LLI (cl2++[L])=LLI cl2++[LI L]:=by simp[LLI]
   have l1:(LLI cl2).length=cl2.length:=by simp[LLI]
   rw[e3]
   simp only[Int.natCast_zero,List.map_nil,LI] at hin ⊢
   generalize LLI cl2=C2 at *
   generalize LLI cls=C at *
   rw[←l1] at hmx
   have h16:runL pg q2n ⟨[(1,I (N:Int)),(4,.ptr true gh.length 0),(8,.ptr false 0 0),(10,.ptr true (gh.length+2) 0),(11,.fn 338 [.ptr true (gh.length+2) 0]),(12,.fn 339 [.ptr true (gh.length+1) 0,.ptr true gh.length 0]),(24,I (t:Int)),(25,I (u:Int)),(26,.sl true 1 (L.map I))],[[I 0,.sl true 1 []]],V gh c f (outO v2 C2)⟩=some (.normal,⟨[(1,I (N:Int)),(4,.ptr true gh.length 0),(8,.ptr false 0 0),(10,.ptr true (gh.length+2) 0),(11,.fn 338 [.ptr true (gh.length+2) 0]),(12,.fn 339 [.ptr true (gh.length+1) 0,.ptr true gh.length 0]),(24,I (t:Int)),(25,I (u:Int))],[[I 0,.sl true 1 []]],V gh c f (outO v2 (C2++[.sl false 1 (L.map I)]))⟩):=by
    refine qd6_ ?_
    simp[qd6,V_o,V_set,hmx,spliceAt]
   simp[q88,hlt,hin,h16,hk,show Nat.ble 1 1=true from rfl]
theorem sd_l10 {st:Nat} (hst:c.st=(st:Int)) (hl:st≤1048576) (hN:N≤40):∀k t (s:Int×List (List Int)),t+k=N+1→s.2.length+84000000*k≤5800000000→
  runL pg q5u ⟨[(1,I (N:Int)),(4,.ptr true gh.length 0),(8,.ptr false 0 0),(10,.ptr true (gh.length+2) 0),(11,.fn 338 [.ptr true (gh.length+2) 0]),(12,.fn 339 [.ptr true (gh.length+1) 0,.ptr true gh.length 0]),(24,I (t:Int))],[[I 0,.sl true 1 []]],V gh c f (outO s.1 (LLI (s.2)))⟩=some (.normal,⟨[(8,.ptr false 0 0),(10,.ptr true (gh.length+2) 0)],[[I 0,.sl true 1 []]],V gh c f (outO (allS f c.inp st N t k s).1 (LLI ((allS f c.inp st N t k s).2)))⟩)
 |0,t,s,h,_=>by
  have hlt:¬(t:Int)≤(N:Int):=by omega
  refine (jqy (s1:=?s1) (q89_ ?h1)).trans ?r1
  case h1=>simp[q89,hlt];rfl
  case r1=>simp[keep,allS,stays]
 | k+1,t,s,h,hs=>by
  have hlt:(t:Int)≤(N:Int):=by omega
  have e2:IntKind.i64.wrap ((t:Int)+1)=((t+1:Nat):Int):=by rw[jqv (by omega) (by omega)];omega
  have hin:=sd_l11 (gh:=gh) (f:=f) (t:=t) hst hl hN (N-t) (t+1) s (by omega) (by omega)
  have hlen:=ju2 (f:=f) (inp:=c.inp) (st:=st) (t:=(t:Int)) (t+1) (N-t) s
  have h3:(2*st+1)*(N-t)≤2097153*40:=Nat.mul_le_mul (by omega) (by omega)
  have hrec:=sd_l10 hst hl hN k (t+1) (rowS f c.inp st t (t+1) (N-t) s) (by omega) (by omega)
  have hk:∀G:List GObj,runL pg q2o ⟨[(1,I (N:Int)),(4,.ptr true gh.length 0),(8,.ptr false 0 0),(10,.ptr true (gh.length+2) 0),(11,.fn 338 [.ptr true (gh.length+2) 0]),(12,.fn 339 [.ptr true (gh.length+1) 0,.ptr true gh.length 0]),(24,I (t:Int))],[[I 0,.sl true 1 []]],G⟩=some (.normal,⟨[(1,I (N:Int)),(4,.ptr true gh.length 0),(8,.ptr false 0 0),(10,.ptr true (gh.length+2) 0),(11,.fn 338 [.ptr true (gh.length+2) 0]),(12,.fn 339 [.ptr true (gh.length+1) 0,.ptr true gh.length 0]),(24,I ((t+1:Nat):Int))],[[I 0,.sl true 1 []]],G⟩):=fun G=>by
   refine qd8_ ?_
   simp[qd8,e2]
  rw[allS]
  refine jqw (q89_ (s:=⟨[(1,I (N:Int)),(4,.ptr true gh.length 0),(8,.ptr false 0 0),(10,.ptr true (gh.length+2) 0),(11,.fn 338 [.ptr true (gh.length+2) 0]),(12,.fn 339 [.ptr true (gh.length+1) 0,.ptr true gh.length 0]),(24,I ((t+1:Nat):Int))],[[I 0,.sl true 1 []]],V gh c f (outO (rowS f c.inp st t (t+1) (N-t) s).1 (LLI ((rowS f c.inp st t (t+1) (N-t) s).2)))⟩) ?h2) hrec
  case h2=>
   generalize LLI (rowS f c.inp st t (t+1) (N-t) s).2=C1 at *
   generalize LLI s.2=C at *
   generalize ((t+1:Nat):Int)=T at *
   simp[q89,hlt,e2,hin,hk,show Nat.ble 1 1=true from rfl]
theorem j15z {st:Nat} (hc:CiS c) (hN:N≤40) (hst:c.st=(c.nexts.length:Int)) (hsi:c.st=(c.inits.length:Int)) (hnn:∀x∈c.nexts,0≤x) (hs2:c.st=(st:Int)) (hl:st≤1048576) :
  callL pg 331 [ciV c,I (N:Int),B false,B true] gh=some (clV (difR c (frE c) (IntKind.i64.wrap (frE c*((N+1:Nat):Int))) N st).1 (difR c (frE c) (IntKind.i64.wrap (frE c*((N+1:Nat):Int))) N st).2,gh):=by
 have hlen:=jvf (begun:=false) hc hN (frE c)
 generalize hv:IntKind.i64.wrap (frE c*((N+1:Nat):Int))=vars
 generalize hf:frE c=f at *
 have hk8:=sd_l8 (gh:=gh) (vars:=vars) (f:=f) hc hN N 0 (rawC c f N false) (by omega) (by omega)
 have n1:(upto (goodG c f) 0 N).length≤1048576*N:=jrf (fun i=>by have:=hc.bads;have:=jsn (IntKind.i64.wrap ((i:Int)*f)) c.bads;show (goodC _ c.bads).length≤_;omega) _ _
 have l2:=sd_l10 (gh:=gh) (f:=f) hs2 hl hN (N+1) 0 (vars,rawC c f N false++upto (goodG c f) 0 N) (by omega) (by simp only[List.length_append];omega)
 have hdr:allS f c.inp st N 0 (N+1) (vars,rawC c f N false++upto (goodG c f) 0 N)=difR c f vars N st:=rfl
 rw[hdr] at l2
 have hn:=jrq (difR c f vars N st).2
 have ht:(V gh c f (outO (difR c f vars N st).1 (LLI (difR c f vars N st).2))).take gh.length=gh:=by simp[V]
 simp only[Int.natCast_zero] at hk8 l2
 have h0:=j15y (gh:=gh) (begun:=false) (b3:=true) (s:=⟨[(8,.ptr false 0 0)],[[I (difR c f vars N st).1,.sl false 1 (LLI (difR c f vars N st).2)]],V gh c f (outO (difR c f vars N st).1 (LLI (difR c f vars N st).2))⟩) hc hN hst hsi hnn (fun h=>by cases h) hf hv (by
  refine qdb_ ?_
  generalize LLI (rawC c f N false++upto (goodG c f) 0 N)=C1 at *
  generalize LLI (rawC c f N false)=C at *
  generalize LLI (difR c f vars N st).2=C2 at *
  generalize (difR c f vars N st).1=v2 at *
  have h19:runL pg q2p ⟨[(8,.ptr false 0 0),(10,.ptr true (gh.length+2) 0)],[[I 0,.sl true 1 []]],V gh c f (outO v2 C2)⟩=some (.ret,⟨[(8,.ptr false 0 0)],[[I v2,.sl false 1 C2]],V gh c f (outO v2 C2)⟩):=by
   refine qd9_ ?_
   simp[qd9,V_o]
  have h15:runL pg q2q ⟨[(1,I (N:Int)),(4,.ptr true gh.length 0),(8,.ptr false 0 0),(10,.ptr true (gh.length+2) 0),(11,.fn 338 [.ptr true (gh.length+2) 0]),(12,.fn 339 [.ptr true (gh.length+1) 0,.ptr true gh.length 0])],[[I 0,.sl true 1 []]],V gh c f (outO vars C1)⟩=some (.ret,⟨[(8,.ptr false 0 0)],[[I v2,.sl false 1 C2]],V gh c f (outO v2 C2)⟩):=by
   refine qda_ ?_
   simp[qda,l2,h19]
  simp[qdb,hk8,h15])
 unfold clV
 unfold LLI at h0 ht
 generalize ((difR c f vars N st).2.map fun l=>LI l)=L at *
 generalize (difR c f vars N st).1=v2 at *
 refine jqs (fn:=q5w) rfl rfl h0 ?_
 generalize V gh c f (outO v2 L)=G at *
 simp[finish,results,q5w,resOfs,resOf,St.cellsAt,resOk,hn,ht]
end
end Go.Lw
end

/-! Proving by steps: what prove.Different answers. -/
section
namespace Go.Lw
open Go
section
variable {gh:List GObj} {c:Ci}
theorem jzf (h:ciE c=0):c.st=(c.nexts.length:Int)∧c.st=(c.inits.length:Int)∧(∀x∈c.nexts,0≤x)∧(∀x∈c.bads,0≤x∧x<1099511627776):=by
 unfold ciE at h
 split at h
 ·rename_i h0
  obtain⟨⟨a0,a1⟩,a2,-⟩:=jtw h0
  split at h
  ·cases h
  ·split at h
   ·cases h
   ·split at h
    ·split at h
     ·rename_i h1
      split at h
      ·rename_i h2
       split at h
       ·rename_i h3
        simp only[Bool.and_eq_true,List.all_eq_true] at h3
        refine⟨h2.symm,h1.symm,fun x hx=>?_,fun x hx=>?_⟩
        ·have:=h3.2.1 x hx
         unfold isLit at this
         exact (of_decide_eq_true this).1
        ·have:=h3.2.2.1 x hx
         unfold isLit nodesOf at this
         have:=of_decide_eq_true this
         omega
       ·cases h
      ·cases h
     ·cases h
    ·cases h
 ·rename_i h0;exact absurd h h0
theorem jzg (hc:CiS c) {f vars:Int} {N st:Nat} (hst:st≤1048576):SL (difR c f vars N st).2:=by
 unfold difR
 exact jyz hst _ _ _ (jrr (SL_raw hc f N false) (jtb (fun i=>jyu _ _) _ _))
theorem j160 (hc:CiS c) {f vars:Int} {N st:Nat} (hN:N≤40) (hst:st≤1048576):(difR c f vars N st).2.length≤6000000000:=by
 unfold difR
 have h1:=jyy (f:=f) (inp:=c.inp) hN hst 0 (N+1) (vars,rawC c f N false++upto (goodG c f) 0 N)
 have h2:=jvf (begun:=false) hc hN f
 have n1:(upto (goodG c f) 0 N).length≤1048576*N:=jrf (fun i=>by have:=hc.bads;have:=jsn (IntKind.i64.wrap ((i:Int)*f)) c.bads;show (goodC _ c.bads).length≤_;omega) _ _
 simp only[List.length_append] at h1
 generalize (allS f c.inp st N 0 (N+1) (vars,rawC c f N false++upto (goodG c f) 0 N)).2.length=A at *
 generalize (upto (goodG c f) 0 N).length=B at *
 generalize (rawC c f N false).length=R at *
 have h3:84000000*(N+1)≤84000000*41:=Nat.mul_le_mul_left _ (by omega)
 generalize 84000000*(N+1)=M at *
 have h4:1048576*N≤1048576*40:=Nat.mul_le_mul_left _ hN
 generalize 1048576*N=M2 at *
 omega
theorem j161 {G:List GObj} {a b:Nat} {N:Nat} (hc:CiS c) (hN:N≤40) (hz:ciE c=0) (ha:G[a]?=some (.cells (cC c))) (hb:G[b]?=some (.cells [I (N:Int)])) :
  callL pg 341 [.ptr true a 0,.ptr true b 0] G=some (clV (difR c (frE c) (IntKind.i64.wrap (frE c*((N+1:Nat):Int))) N c.nexts.length).1 (difR c (frE c) (IntKind.i64.wrap (frE c*((N+1:Nat):Int))) N c.nexts.length).2,G):=by
 obtain⟨z1,-,-,z4⟩:=jzf hz
 have hR:=j15j (gh:=G) hc hN z1 hc.nexts z4
 generalize IntKind.i64.wrap (frE c*((N+1:Nat):Int))=vars at *
 generalize difR c (frE c) vars N c.nexts.length=R at *
 have hn:=jrq R.2
 unfold cC at ha
 unfold clV at hR ⊢
 simp only[ciV,LI] at hR ha ⊢
 generalize (R.2.map fun l=>LI l)=L at *
 refine jqs (fn:=q4p) (s:=?s2) rfl rfl (qdi_ ?h2) ?r2
 case h2=>simp[qdi,unA8,ha,hb,hR];rfl
 case r2=>simp[finish,results,q4p,resOfs,resOf,St.cellsAt,resOk,hn]
def diffE (c:Ci) (steps:Int):PV:=
 if readyE c steps false=0 then limE c steps.toNat (difR c (frE c) (IntKind.i64.wrap (frE c*((steps.toNat+1:Nat):Int))) steps.toNat c.nexts.length).1 (difR c (frE c) (IntKind.i64.wrap (frE c*((steps.toNat+1:Nat):Int))) steps.toNat c.nexts.length).2
 else .tup [clV 0 [],I (readyE c steps false)]
theorem j162 {steps:Int} (hr:RA c.ands) (hc:CiT c):callL pg 334 [ciV c,I steps] gh=some (diffE c steps,gh):=by
 have hR:=j159 (gh:=gh++[.cells (cC c),.cells [I steps]]) (begun:=false) (steps:=steps) hr hc
 unfold diffE
 by_cases h0:readyE c steps false=0
 ·rw[if_pos h0]
  obtain⟨hz,N,hN,rfl⟩:=jyt h0
  have hc:=CiS_of hc hz
  rw[h0] at hR
  rw[Int.toNat_natCast]
  have h1:=j161 (G:=gh++[.cells (cC c),.cells [I (N:Int)]]) (a:=gh.length) (b:=gh.length+1) hc hN hz (by simp) (by simp)
  have hS:=jzg hc (f:=frE c) (vars:=IntKind.i64.wrap (frE c*((N+1:Nat):Int))) (N:=N) hc.nexts
  have hL:=j15a (c:=c) hN (by simp) hS h1
  generalize IntKind.i64.wrap (frE c*((N+1:Nat):Int))=vars at *
  generalize difR c (frE c) vars N c.nexts.length=R at *
  obtain⟨n,l,e,ho⟩:=j15b c N R.1 R.2
  rw[ho] at hL ⊢
  have hn:=jrq l
  unfold cC at hL hR
  unfold clV at hL ⊢
  simp only[ciV,LI] at hL hR ⊢
  generalize (l.map fun l=>LI l)=L at *
  refine jqs (fn:=q1d) (s:=?s2) rfl rfl (q8b_ ?h2) ?r2
  case h2=>simp[q8b,unA8,hR,hL];rfl
  case r2=>simp[finish,results,q1d,resOfs,resOf,St.cellsAt,resOk,hn]
 ·rw[if_neg h0]
  generalize readyE c steps false=e at *
  unfold cC at hR
  simp only[ciV,LI] at hR ⊢
  refine jqs (fn:=q1d) (s:=?s3) rfl rfl (q8b_ ?h3) ?r3
  case h3=>simp[q8b,unA8,hR,h0];rfl
  case r3=>simp[finish,results,q1d,resOfs,resOf,St.cellsAt,resOk,clV]
end
end Go.Lw
end

/-! The law ProveDifferents, of the machine: it answers true. -/
section
namespace Go.Lw
open Go
section
variable {c:Ci}
theorem j164 {steps:Int} (hr:RA c.ands) (hc:CiT c):callL pg 333 [ciV c,I steps] []=some (B true,[]):=by
 have hX:=j162 (gh:=[]) (steps:=steps) hr hc
 have hW:=j15x (gh:=[]) (steps:=steps) (begun:=false) hr hc
 have hB:=j163
 have fin:∀(s:St),s=⟨[(4,B true)],[],[]⟩→runL pg q45 ⟨[(0,ciV c),(1,I steps)],[],[]⟩=some (.ret,s)→callL pg 333 [ciV c,I steps] []=some (B true,[]):=by
  intro s hs hrun
  subst hs
  refine jqs (fn:=q46) rfl rfl hrun ?_
  simp[finish,results,q46,resOfs,resOf,resOk,get]
 have k2:∀(cs:List PV) (n e m:Int) (l q:List PV),callL pg 19 [.agg [I n,.sl false 1 l],I e,I e,.agg [I m,.sl false 1 q]] []=some (B true,[])→
   ∀(o:Bool),runL pg q1a ⟨[(5,.ptr false 1 0),(6,I e),(7,I e),(8,.ptr false 2 0)],[cC c,[I n,.sl false 1 l],[I m,.sl o 1 q]],[]⟩=some (.ret,⟨[(4,B true)],[],[]⟩):=by
  intro cs n e m l q h o
  refine qdj_ ?_
  simp[qdj,hB,h]
 unfold diffE at hX
 by_cases h0:readyE c steps false=0
 ·rw [if_pos h0] at hX
  obtain⟨hz,N,hN,rfl⟩:=jyt h0
  have hc:=CiS_of hc hz
  obtain⟨z1,z2,z3,-⟩:=jzf hz
  have hS:=j15z (gh:=[]) (c:=c) (N:=N) hc hN z1 z2 z3 z1 hc.nexts
  have hSL:=jzg hc (f:=frE c) (vars:=IntKind.i64.wrap (frE c*((N+1:Nat):Int))) (N:=N) hc.nexts
  have hlen:=j160 hc (f:=frE c) (vars:=IntKind.i64.wrap (frE c*((N+1:Nat):Int))) hN hc.nexts
  rw[h0] at hW
  rw[Int.toNat_natCast] at hX
  have e1:IntKind.i64.wrap ((N:Int)+1)=((N+1:Nat):Int):=by rw[jqv (by omega) (by omega)];omega
  unfold limE at hX
  generalize hM:((N+1:Nat):Int)=M at *
  generalize hvv:IntKind.i64.wrap (frE c*M)=vars at *
  generalize difR c (frE c) vars N c.nexts.length=R at *
  obtain⟨v2,R⟩:=R
  simp only at hX hS hSL hlen
  have hLl:(c.ands.map andV).length=c.ands.length:=List.length_map _
  unfold frE at hvv
  by_cases hb:200000<vars
  ·rw[if_pos hb] at hX
   have hcl:=jvi (gh:=[]) (e:=3) (v:=0) (L:=[]) (by decide)
   unfold clV at hcl hX
   have h2:=k2 [] 0 3 0 [] [] hcl true
   have h1:runL pg qh ⟨[(1,I (N:Int)),(2,.ptr false 0 0),(5,.ptr false 1 0),(6,I 3),(7,I 3),(8,.ptr false 2 0)],[cC c,[I 0,.sl false 1 []],[I 0,.sl true 1 []]],[]⟩=some (.ret,⟨[(4,B true)],[],[]⟩):=by
    refine q3q_ ?_
    unfold cC at h2
    simp only[LI] at h2
    simp[q3q,h2]
   unfold cC at h1
   simp only[ciV,LI,List.map_nil] at hX hW h1 fin ⊢
   refine fin _ rfl (q3r_ ?h1)
   case h1=>simp[q3r,hX,hW,hLl,e1,hvv,hb,h1]
  ·rw[if_neg hb] at hX
   have hD:=j15p (gh:=[]) (vars:=v2) (cls:=R)
   have hpair:∃(n:Int) (l:List (List Int)) (e:Int),doneE v2 R= .tup [clV n l,I e]∧callL pg 19 [clV n l,I e,I e,clV n l] []=some (B true,[]):=by
    unfold doneE
    by_cases he:clsE v2 R=0
    ·rw[if_pos he]
     exact⟨_,_,_,rfl,j15s hSL (by simp only[Sz];omega)⟩
    ·rw[if_neg he]
     exact⟨_,_,_,rfl,jvi he⟩
   obtain⟨n,l,e,ho,hcl⟩:=hpair
   rw[ho] at hX hD
   unfold clV at hcl hX hD hS
   generalize (l.map fun l=>LI l)=L at *
   generalize (R.map fun l=>LI l)=RL at *
   have h2:=k2 [] n e n L L hcl false
   have h1:runL pg qh ⟨[(1,I (N:Int)),(2,.ptr false 0 0),(5,.ptr false 1 0),(6,I e),(7,I 0),(8,.ptr false 2 0)],[cC c,[I n,.sl false 1 L],[I 0,.sl true 1 []]],[]⟩=some (.ret,⟨[(4,B true)],[],[]⟩):=by
    refine q3q_ ?_
    unfold cC at h2
    simp only[ciV,LI] at h2 hS
    simp[q3q,hS,hD,h2]
   unfold cC at h1
   simp only[ciV,LI] at hX hW h1 fin ⊢
   refine fin _ rfl (q3r_ ?h2)
   case h2=>simp[q3r,hX,hW,hLl,e1,hvv,hb,h1]
 ·rw[if_neg h0] at hX
  generalize readyE c steps false=e at *
  have hcl:=jvi (gh:=[]) (e:=e) (v:=0) (L:=[]) h0
  unfold clV at hcl hX
  have h2:=k2 [] 0 e 0 [] [] hcl true
  have h1:runL pg qh ⟨[(1,I steps),(2,.ptr false 0 0),(5,.ptr false 1 0),(6,I e),(7,I e),(8,.ptr false 2 0)],[cC c,[I 0,.sl false 1 []],[I 0,.sl true 1 []]],[]⟩=some (.ret,⟨[(4,B true)],[],[]⟩):=by
   refine q3q_ ?_
   unfold cC at h2
   simp only[LI] at h2
   simp[q3q,h0,h2]
  unfold cC at h1
  simp only[ciV,LI,List.map_nil] at hX hW h1 fin ⊢
  refine fin _ rfl (q3r_ ?h3)
  case h3=>simp[q3r,hX,hW,h0,h1]
end
theorem j165 {c:Ci} {n:Nat} (hn:bulkPs [ciV c]≤n):c.inits.length≤n∧c.nexts.length≤n∧c.bads.length≤n∧c.holds.length≤n:=by
 have e1:=jt2 (c.inits.map I)
 have e2:=jt2 (c.nexts.map I)
 have e3:=jt2 (c.bads.map I)
 have e4:=jt2 (c.holds.map I)
 simp only[bulkPs,bulkP,List.length_map,ciV,LI] at hn e1 e2 e3 e4
 omega
abbrev insProveDifferents:List (Bool×List CS):=[(true,circuitC),(false,[.int])]
theorem j166 (qs:List PV) (h:argsTy insProveDifferents qs) (hn:bulkPs qs≤1048576):callL pg 333 qs []=some (B true,[]):=by
 obtain⟨_,_,rfl,h0,h⟩:=jxc h
 obtain⟨_,_,rfl,h1,h⟩:=jxc h
 obtain rfl:=j13b h
 obtain⟨c,rfl,hr⟩:=j15v h0
 obtain⟨steps,rfl,-⟩:=js6 (jy9 h1)
 have hb:=j165 (c:=c) (n:=1048576) (by
  simp only[bulkPs,bulkP] at hn ⊢
  omega)
 exact j164 hr ⟨hb.1,hb.2.1,hb.2.2.1,hb.2.2.2⟩
end Go.Lw
end
