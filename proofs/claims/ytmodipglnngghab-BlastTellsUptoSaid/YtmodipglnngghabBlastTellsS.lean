/-
  The texts that the proof stands on, part 19.
-/
import Derived.Test.YtmodipglnngghabBlastTellsR
set_option linter.unusedVariables false
set_option linter.unusedSimpArgs false
set_option linter.unnecessarySimpa false

set_option maxRecDepth 100000
set_option maxHeartbeats 4000000
namespace Go.Lw
open Go
theorem tq {R:Type} {a b c d e g h i:PV} (f:PV->PV->PV->PV->PV->PV->PV->PV->Option R):unA 8 (.agg [a,b,c,d,e,g,h,i]) f=f a b c d e g h i:=rfl
theorem tr {l:List Nd} {a:Int} (h:dh l a):∃x,l[a.toNat]?=some x/\wAt l a=x.w:=by
 obtain⟨x,hx⟩:∃x,l[a.toNat]?=some x:=⟨_,aA h.2⟩
 exact⟨x,hx,by unfold wAt;rw[aM,hx];rfl⟩
theorem IW {L:List Nd} (vs:List Int):cy L [] vs=[]:=by cases vs<;>rfl
def ci0:Ci:=⟨0,[],0,0,[],[],[],[]⟩
section
variable {m:Md} {gh:List GObj}
theorem IY (h1:Sz m.inits.length) (h2:Sz m.nexts.length) (h:cY m≠0):ac pg 214 [e8 m] gh=some (.tup [ciV ci0,I (cY m)],gh):=by
 have hc:=xA (m:=m) (gh:=gh) h1 h2;rw[en] at hc ⊢;unfold LI LN LP at *;generalize m.nodes.map bm=LV at *;generalize m.inits.map aj=IV at *;generalize m.nexts.map aj=NV at *;generalize m.bads.map I=BV at *;generalize m.holds.map I=HV at *;generalize cY m=e at *;refine aq (fn:=q1p) (s:=⟨[(2,.ptr false 1 0),(3,I e)],[[.sl false 6 LV,.sl false 2 IV,.sl false 2 NV,.sl false 1 BV,.sl false 1 HV],[I 0,.sl true 2 [],I 0,I 0,.sl true 1 [],.sl true 1 [],.sl true 1 [],.sl true 1 []]],gh⟩) rfl rfl (qhe ?h1) ?r1
 case h1=>simp[hc,h]
 case r1=>simp[am,results,q1p,ao,au,ai,St.cellsAt,ci0]
theorem IZ (h:cY m=0) {c:Ci} (hr:ac pg 217 [e8 m] gh=some (ciV c,gh)) (hA:c.ands.length<=1000000):ac pg 214 [e8 m] gh=some (.tup [ciV c,I 0],gh):=by
 have hg:=gk h;have hpl:=lu hg;have hc:=xA (m:=m) (gh:=gh) (by simp only[Sz];omega) (by simp only[Sz];omega);rw[h] at hc;rw[en] at hc hr ⊢;obtain⟨ins,A,inp,stt,ini,nx,bd,hd⟩:=c;simp only[ciV] at hr hA ⊢;have hlt:decide ((1000000:Int)<((A.length:Nat):Int))=false:=aF (by omega);have hal:(A.map aj).length=A.length:=by simp
 have hn1:=rL A;have hn2:=fB ini;have hn3:=fB nx;have hn4:=fB bd;have hn5:=fB hd;unfold LI LN LP at *;generalize A.map aj=AV at *;generalize ini.map I=II at *;generalize nx.map I=NN at *;generalize bd.map I=FB at *;generalize hd.map I=FH at *;generalize m.nodes.map bm=LV at *;generalize m.inits.map aj=IV at *;generalize m.nexts.map aj=NV at *;generalize m.bads.map I=BV at *;generalize m.holds.map I=HV at *
 refine aq (fn:=q1p) (s:=⟨[(2,.ptr false 1 0),(3,I 0)],[[.sl false 6 LV,.sl false 2 IV,.sl false 2 NV,.sl false 1 BV,.sl false 1 HV],[I ins,.sl false 2 AV,I inp,I stt,.sl false 1 II,.sl false 1 NN,.sl false 1 FB,.sl false 1 FH]],gh⟩) rfl rfl (qhe ?h1) ?r1
 case h1=>
  simp[hc,hr];rw[tq];simp[hal,show ¬(1000000:Int)<(A.length:Int) by omega]
 case r1=>simp[am,results,q1p,ao,au,ai,St.cellsAt,hn1,hn2,hn3,hn4,hn5]
theorem yQ {L:List Nd}:∀{ns vs:List Int} {i:Nat},vs.length=ns.length->eW L ns vs=0->(hi:i<ns.length)->(hv:i<vs.length)->0<=vs[i]/\vs[i]<((2^(wAt L ns[i]).toNat:Nat):Int)
 |a::ns,x::vs,0,h,hw,_,_=>(by obtain⟨v,vs',e,h0,h1,_,_⟩:=oJ h hw;cases e;exact⟨h0,h1⟩)
 |a::ns,x::vs,i+1,h,hw,hi,hv=>(by obtain⟨v,vs',e,_,_,h2,h3⟩:=oJ h hw;cases e;exact yQ (by simpa using h) h3 (by simpa using hi) (by simpa using hv))
def boE (vs ns:List Int) (acc:List Bool) (i:Nat):List (Nat×PV):=[(2,LI vs),(3,.ptr false 0 0),(7,.sl true 1 (acc.map B)),(8,LI ns),(9,I (i:Int))]
theorem yR {vs ns:List Int} {i W X:Nat} {s:Int} {x:Nd} (hw:W<=8) (hX:X<65536) (hs:0<=s) (hn:(ns.map I)[i]?=some (I s)) (hv:(vs.map I)[i]?=some (I (X:Int))) (hx:m.nodes[s.toNat]?=some x) (hxw:x.w=(W:Int)):∀(k j:Nat) (acc:List Bool),j+k=W->acc.length<=1000+j->
  ab pg q9c ⟨[(2,LI vs),(3,.ptr false 0 0),(7,.sl true 1 (acc.map B)),(8,LI ns),(9,I (i:Int)),(10,I (j:Int))],[[LN m.nodes,LP m.inits,LP m.nexts,LI m.bads,LI m.holds]],gh⟩=some (.normal,⟨boE vs ns (acc++cB X j k) i,[[LN m.nodes,LP m.inits,LP m.nexts,LI m.bads,LI m.holds]],gh⟩)
 | 0,j,acc,h,_=>by
  have hlt:decide ((j:Int)<(W:Int))=false:=aF (by omega);have hxv:(m.nodes.map bm)[s.toNat]?=some (.agg [I x.k,I x.w,I x.a,I x.b,I x.c,I x.n]):=by rw[aB,hx];rfl
  rw[hxw] at hxv;rw[cB,bH];unfold boE LI LN LP at *;generalize m.nodes.map bm=LV at *;generalize m.inits.map aj=IV at *;generalize m.nexts.map aj=NV at *;generalize m.bads.map I=BV at *;generalize m.holds.map I=HV at *;generalize ns.map I=NS' at *;generalize vs.map I=VS at *;generalize acc.map B=AC at *;refine (cm (s1:=⟨[(2,.sl false 1 VS),(3,.ptr false 0 0),(7,.sl true 1 AC),(8,.sl false 1 NS'),(9,I (i:Int)),(10,I (j:Int)),(30,B false)],[[.sl false 6 LV,.sl false 2 IV,.sl false 2 NV,.sl false 1 BV,.sl false 1 HV]],gh⟩) (qhf ?h1)).trans ?r1
  case h1=>
   have hj:¬j<W:=by omega
   simp[hn,hs,hxv,hj]
  case r1=>simp[keep,co]
 | k+1,j,acc,h,ha=>by
  have hj:j<W:=by omega
  have hxv:(m.nodes.map bm)[s.toNat]?=some (.agg [I x.k,I x.w,I x.a,I x.b,I x.c,I x.n]):=by rw[aB,hx];rfl
  rw[hxw] at hxv;have hb:=mn (A:=X) (i:=j) hX (by omega) gh;have e2:=wrS' j (by omega);have hal:(acc.map B).length=acc.length:=by simp
  have hmx:acc.length+1<=maxBytes:=by have:=MB;omega
  have ih:=yR hw hX hs hn hv hx hxw k (j+1) (acc++[decide (X/2^j%2=1)]) (by omega) (by simp;omega);rw[aZ,bK (l₁:=acc) (l₂:=[decide (X/2^j%2=1)])] at ih;have hbq:decide (((X/2^j%2:Nat):Int)=1)=decide (X/2^j%2=1):=by
   generalize X/2^j%2=q;by_cases hq:q=1
   ·subst hq;rfl
   ·rw[aF hq];exact aF (by omega)
  refine bh (qhf ?h2) ih
  case h2=>
   simp only[bQ,bR];generalize decide (X/2^j%2=1)=bb at *;generalize ((X/2^j%2:Nat):Int)=q at *;unfold LI LN LP at *;generalize m.nodes.map bm=LV at *;generalize m.inits.map aj=IV at *;generalize m.nexts.map aj=NV at *;generalize m.bads.map I=BV at *;generalize m.holds.map I=HV at *;generalize ns.map I=NS' at *;generalize vs.map I=VS at *;generalize acc.map B=AC at *;simp[hn,hs,hxv,hj,hv,hb,hbq,hal,hmx,e2]
theorem I0 {vs ns:List Int} {acc:List Bool} {i:Nat} (hi:i<=1000):ab pg q4n ⟨boE vs ns acc i,[[LN m.nodes,LP m.inits,LP m.nexts,LI m.bads,LI m.holds]],gh⟩=some (.normal,⟨boE vs ns acc (i+1),[[LN m.nodes,LP m.inits,LP m.nexts,LI m.bads,LI m.holds]],gh⟩):=by unfold boE;exact qni (by simp[wrS' i (by omega)])
theorem yS {vs ns:List Int} (hl:ns.length<=80) (hvl:vs.length=ns.length) (hns:mJ m.nodes ns) (hw:eW m.nodes ns vs=0):∀(k i:Nat) (acc:List Bool),i+k=ns.length->acc.length<=8*i->
  ab pg q9d ⟨boE vs ns acc i,[[LN m.nodes,LP m.inits,LP m.nexts,LI m.bads,LI m.holds]],gh⟩=some (.normal,⟨[(7,.sl true 1 ((acc++cy m.nodes (ns.drop i) (vs.drop i)).map B))],[],gh⟩)
 |0,i,acc,h,_=>by
  have hd:ns.drop i=[]:=aQ (by omega);rw[hd,IW,bH];have hlt:decide ((i:Int)<(ns.length:Int))=false:=aF (by omega);have hnl:(ns.map I).length=ns.length:=by simp
  unfold boE;unfold LI at *;generalize ns.map I=NS' at *;generalize vs.map I=VS at *;generalize acc.map B=AC at *;refine (cm (s1:=?s1) (qhg ?h1)).trans ?r1
  case h1=>simp only[ig,ie,ii,fw,hnl,hlt,dq];rfl
  case r1=>simp[keep,co]
 | k+1,i,acc,h,ha=>by
  have hi:i<ns.length:=by omega
  have hiv:i<vs.length:=by omega
  have hn:(ns.map I)[i]?=some (I ns[i]):=by rw[aB,aA hi];rfl
  have hv0:(vs.map I)[i]?=some (I vs[i]):=by rw[aB,aA hiv];rfl
  have hwi:=yQ hvl hw hi hiv;have hso:=hns _ (bX hi);have hbits:cy m.nodes (ns.drop i) (vs.drop i)=cB vs[i].toNat 0 (wAt m.nodes ns[i]).toNat++cy m.nodes (ns.drop (i+1)) (vs.drop (i+1)):=by rw[aL hi,aL hiv,cy]
  rw[hbits];generalize ns[i]=s at *;generalize vs[i]=xv at *;obtain⟨x,hx,hxw⟩:=tr hso.1;obtain⟨W,hW⟩:∃W:Nat,x.w=W:=⟨x.w.toNat,by have:=hso.2;omega⟩
  have hw8:W<=8:=by have:=hso.2;omega
  have hWt:(wAt m.nodes s).toNat=W:=by omega
  obtain⟨Xn,rfl⟩:∃Xn:Nat,xv=Xn:=⟨xv.toNat,by omega⟩
  have hp:=fj hw8;rw[hWt] at hwi;have hX:Xn<65536:=by omega
  have h2:=yR (m:=m) (gh:=gh) (i:=i) hw8 hX hso.1.1 hn hv0 hx hW W 0 acc (by omega) (by omega);have hk1:=I0 (m:=m) (gh:=gh) (vs:=vs) (ns:=ns) (acc:=acc++cB Xn 0 W) (i:=i) (by omega);have ih:=yS hl hvl hns hw k (i+1) (acc++cB Xn 0 W) (by omega) (by rw[aW,gm];omega);rw[hWt,Int.toNat_natCast,<-aZ];have hlt:decide ((i:Int)<(ns.length:Int))=true:=aG (by omega);have hnl:(ns.map I).length=ns.length:=by simp
  simp only[aX] at h2;unfold boE at *;refine bh (qhg ?h2) ih
  case h2=>
   unfold LI LN LP at *;generalize m.nodes.map bm=LV at *;generalize m.inits.map aj=IV at *;generalize m.nexts.map aj=NV at *;generalize m.bads.map I=BV at *;generalize m.holds.map I=HV at *;generalize ns.map I=NS' at *;generalize vs.map I=VS at *;generalize (acc++cB Xn 0 W).map B=AC2 at *;generalize acc.map B=AC at *;simp only[ig,ie,ii,fw,hnl,hlt,dO];simp[h2,hk1]
theorem pF {kind:Int} {vs:List Int} (h:cY m=0) (hw:eM m.nodes (ak m.nodes kind) vs=0):ac pg 327 [e8 m,I kind,LI vs] gh=some (.sl true 1 ((cy m.nodes (ak m.nodes kind) vs).map B),gh):=by
 have hg:=gk h;have hkl:=jh hg kind;have hvl:=kc hw;have hl:=hg.len;have hwf:eW m.nodes (ak m.nodes kind) vs=0:=by
  unfold eM at hw
  rwa [if_neg (by omega)] at hw
 have hN:=j8 (m:=m) (kind:=kind) (gh:=gh) (by omega);have hL:=yS (m:=m) (gh:=gh) hkl hvl (mL h kind) hwf (ak m.nodes kind).length 0 [] (by omega) (by simp);have hno:=vW (cy m.nodes (ak m.nodes kind) vs);rw[bL,bL,bI] at hL;unfold boE at hL;simp only[bR,aX] at hL;rw[en] at hN ⊢;have hk:ab pg q4o ⟨[(7,.sl true 1 ((cy m.nodes (ak m.nodes kind) vs).map B))],[],gh⟩=some (.ret,⟨[(6,.sl true 1 ((cy m.nodes (ak m.nodes kind) vs).map B))],[],gh⟩):=qnj (by simp);unfold LI LN LP at *;generalize (cy m.nodes (ak m.nodes kind) vs).map B=R at *;generalize (ak m.nodes kind).map I=KL at *
 generalize vs.map I=VS at *;generalize m.nodes.map bm=LV at *;generalize m.inits.map aj=IV at *;generalize m.nexts.map aj=NV at *;generalize m.bads.map I=BV at *;generalize m.holds.map I=HV at *;refine aq (fn:=q9e) (s:=⟨[(6,.sl true 1 R)],[],gh⟩) rfl rfl (qnk ?h1) ?r1
 case h1=>simp[hN,hL,hk]
 case r1=>simp[am,results,q9e,ai,hno]
def e9 (L:List Nd):List Int->Nat->List Int
 |[],_=>[]
 |a::ns,n=>((n%2^(wAt L a).toNat:Nat):Int)::e9 L ns (n/2^(wAt L a).toNat)
theorem tt {L:List Nd}:∀(ns:List Int) (n:Nat),(e9 L ns n).length=ns.length/\eW L ns (e9 L ns n)=0
 |[],_=>⟨rfl,rfl⟩
 |a::ns,n=>by obtain⟨h1,h2⟩:=tt ns (n/2^(wAt L a).toNat);refine⟨by rw[e9,bB,bB,h1],?_⟩;have:=Nat.mod_lt n (Nat.two_pow_pos (wAt L a).toNat);rw[e9,eW,if_pos ⟨by omega,by omega⟩];exact h2
theorem yT {L:List Nd} (ns:List Int) (n:Nat):eM L ns (e9 L ns n)=0:=by unfold eM;rw[if_neg (by rw[(tt ns n).1];simp)];exact (tt ns n).2
theorem yU {ns:List Int} (hl:ns.length<=80) (hns:mJ m.nodes ns):∀(k i:Nat) (acc:List Int) (n:Nat),i+k=ns.length->acc.length=i->n<65536->
  ab pg q9a ⟨[(2,I (n:Int)),(3,.ptr false 0 0),(7,.sl true 1 (acc.map I)),(8,LI ns),(9,I (i:Int))],[[LN m.nodes,LP m.inits,LP m.nexts,LI m.bads,LI m.holds]],gh⟩=some (.normal,⟨[(7,.sl true 1 ((acc++e9 m.nodes (ns.drop i) n).map I))],[],gh⟩)
 |0,i,acc,n,h,_,_=>by
  have hd:ns.drop i=[]:=aQ (by omega);rw[hd,e9,bH];have hlt:decide ((i:Int)<(ns.length:Int))=false:=aF (by omega);have hnl:(ns.map I).length=ns.length:=by simp
  unfold LI at *;generalize ns.map I=NS' at *;generalize acc.map I=AC at *;refine (cm (s1:=?s1) (qhh ?h1)).trans ?r1
  case h1=>simp only[ig,ie,ii,fw,hnl,hlt,dq];rfl
  case r1=>simp[keep,co]
 | k+1,i,acc,n,h,ha,hn'=>by
  have hi:i<ns.length:=by omega
  have hn:(ns.map I)[i]?=some (I ns[i]):=by rw[aB,aA hi];rfl
  have hso:=hns _ (bX hi);have hw0:e9 m.nodes (ns.drop i) n=((n%2^(wAt m.nodes ns[i]).toNat:Nat):Int)::e9 m.nodes (ns.drop (i+1)) (n/2^(wAt m.nodes ns[i]).toNat):=by rw[aL hi,e9]
  rw[hw0];generalize ns[i]=s at *;obtain⟨x,hx,hxw⟩:=tr hso.1;obtain⟨W,hW⟩:∃W:Nat,x.w=W:=⟨x.w.toNat,by have:=hso.2;omega⟩
  have hw8:W<=8:=by have:=hso.2;omega
  have hWt:(wAt m.nodes s).toNat=W:=by omega
  have hs0:0<=s:=hso.1.1;rw[hWt];have hp:=fj hw8;have hp1:1<=2^W:=Nat.one_le_two_pow;have hT:=fU (k:=W) (by omega) gh;have hxv:(m.nodes.map bm)[s.toNat]?=some (.agg [I x.k,I x.w,I x.a,I x.b,I x.c,I x.n]):=by rw[aB,hx];rfl
  rw[hW] at hxv;have hdv:n/2^W<=n:=Nat.div_le_self _ _;have ih:=yU hl hns k (i+1) (acc++[((n%2^W:Nat):Int)]) (n/2^W) (by omega) (by simp;omega) (by omega);rw[aZ,bK (l₁:=acc) (l₂:=[((n%2^W:Nat):Int)])] at ih;have em:Int.tmod (n:Int) ((2^W:Nat):Int)=((n%2^W:Nat):Int):=by rw[Int.tmod_eq_emod_of_nonneg (by omega)];exact (Int.natCast_emod _ _).symm
  have ed:WI.wrap (Int.tdiv (n:Int) ((2^W:Nat):Int))=((n/2^W:Nat):Int):=by
   have:Int.tdiv (n:Int) ((2^W:Nat):Int)=((n/2^W:Nat):Int):=by rw[Int.tdiv_eq_ediv_of_nonneg (by omega)];exact (Int.natCast_ediv _ _).symm
   rw[this];generalize n/2^W=q at *;exact a9 (by omega) (by omega)
  have ed2:WI.wrap ((n:Int)/((2^W:Nat):Int))=((n/2^W:Nat):Int):=by rw[<-ed,Int.tdiv_eq_ediv_of_nonneg (by omega)]
  have hne:(((2^W:Nat):Int)≠0):=by omega
  have e2:=wrS' i (by omega);have hal:(acc.map I).length=i:=by simpa using ha
  have hmx:(i+1)*8<=maxBytes:=by have:=MB;omega
  have hnl:(ns.map I).length=ns.length:=by simp
  have hlt:decide ((i:Int)<(ns.length:Int))=true:=aG (by omega);refine bh (qhh ?h2) ih
  case h2=>
   simp only[bQ,bR];unfold LI LN LP at *;generalize ((2^W:Nat):Int)=t2 at *;generalize ((n%2^W:Nat):Int)=q at *;generalize ((n/2^W:Nat):Int)=q2 at *;generalize m.nodes.map bm=LV at *;generalize m.inits.map aj=IV at *;generalize m.nexts.map aj=NV at *;generalize m.bads.map I=BV at *;generalize m.holds.map I=HV at *;generalize ns.map I=NS' at *;generalize acc.map I=AC at *;simp only[ig,ie,ii,fw,hnl,hlt,dO];simp[hn,hs0,hxv,hT,hne,em,ed2,hal,hmx,e2]
theorem yV {kind:Int} {n:Nat} (h:cY m=0) (hn:n<65536):ac pg 326 [e8 m,I kind,I (n:Int)] gh=some (LI (e9 m.nodes (ak m.nodes kind) n),gh):=by
 have hg:=gk h;have hkl:=jh hg kind;have hl:=hg.len;have hN:=j8 (m:=m) (kind:=kind) (gh:=gh) (by omega);have hL:=yU (m:=m) (gh:=gh) hkl (mL h kind) (ak m.nodes kind).length 0 [] n (by omega) rfl hn;have hno:=fB (e9 m.nodes (ak m.nodes kind) n);rw[bL,bI] at hL;simp only[bR,aX] at hL;rw[en] at hN ⊢;have hk:ab pg q4m ⟨[(7,.sl true 1 ((e9 m.nodes (ak m.nodes kind) n).map I))],[],gh⟩=some (.ret,⟨[(6,LI (e9 m.nodes (ak m.nodes kind) n))],[],gh⟩):=qnl (by simp);unfold LI LN LP at *;generalize (e9 m.nodes (ak m.nodes kind) n).map I=R at *;generalize (ak m.nodes kind).map I=KL at *
 generalize m.nodes.map bm=LV at *;generalize m.inits.map aj=IV at *;generalize m.nexts.map aj=NV at *;generalize m.bads.map I=BV at *;generalize m.holds.map I=HV at *;refine aq (fn:=q9b) (s:=⟨[(6,.sl false 1 R)],[],gh⟩) rfl rfl (qnm ?h1) ?r1
 case h1=>simp[hN,hL,hk]
 case r1=>simp[am,results,q9b,ao,au,ai,hno]
end
theorem I5 (p:Int->Bool) (l:List Int):(mP l).all p=l.all λn=>n== -1||p n:=by
 induction l with
 |nil=>rfl
 |cons a l ih=>
  simp only[mP] at ih ⊢;rw[List.filter_cons,List.all_cons,<-ih];cases h:a== -1 with
  |true=>simp[bne,h]
  |false=>simp[bne,h]
section
variable {gh:List GObj}
abbrev pG (ins:Int) (G:List PV) (inp st:Int) (A B' C D:List Int):List PV:=[I ins,.sl false 2 G,I inp,I st,LI A,LI B',LI C,LI D]
theorem yX {ins:Int} {G:List PV} {inp st:Int} {A B' C D:List Int} {p:Int->Bool} (hp:∀n,ac pg 3 [.agg [I ins,.sl false 2 G],I n] gh=some (B (p n),gh)) (hs:Sz A.length):∀k i,i+k=A.length->
  ab pg q97 ⟨[(1,.ptr false 0 0),(4,I (i:Nat))],[pG ins G inp st A B' C D],gh⟩=
   if ((A.drop i).all λn=>n== -1||p n)=true then some (.normal,⟨[(1,.ptr false 0 0)],[pG ins G inp st A B' C D],gh⟩) else some (.ret,⟨[(2,I 5)],[],gh⟩)
 |0,i,h=>by
  have hlt:¬i<A.length:=by omega
  rw[aQ (by omega)];refine (cm (s1:=?s1) (q5k ?h1)).trans ?r1
  case h1=>simp[hlt];rfl
  case r1=>simp[keep,co]
 | k+1,i,h=>by
  have hlt:i<A.length:=by omega
  have hx:(A.map I)[i]?=some (I A[i]):=by simp[hlt]
  have hn:=hp A[i];have hw:WI.wrap ((i:Int)+1)=((i+1:Nat):Int):=gg (by simp only[Sz] at hs ⊢;omega);have ih:=yX (inp:=inp) (st:=st) (B':=B') (C:=C) (D:=D) hp hs k (i+1) (by omega);rw[aL hlt,List.all_cons];simp only[pG,LI] at ih ⊢;generalize ((A.drop (i+1)).all λn=>n== -1||p n)=rest at *;generalize A[i]=x at *;have hltL:i<(A.map I).length:=by simpa using hlt
  generalize A.map I=L at *;have hx2:L[i]=I x:=by rw[aA hltL] at hx;exact cW hx
  obtain⟨u,hu⟩:∃u:Int,((i+1:Nat):Int)=u:=⟨_,rfl⟩
  rw[hu] at hw ih;by_cases hm:x= -1
  ·have hb:(x== -1||p x)=true:=by simp[hm]
   rw[hb,Bool.true_and];refine bh (q5k ?h2) ih
   case h2=>simp[hltL,hx2,hm,hw]
  ·cases hq:p x with
   |true=>
    rw[hq] at hn;have hb:(x== -1||true)=true:=by simp
    rw[hb,Bool.true_and];refine bh (q5k ?h3) ih
    case h3=>simp[hltL,hx2,hm,hw,hn]
   |false=>
    rw[hq] at hn;have hb:(x== -1||false)=false:=by simp[hm]
    rw[hb,Bool.false_and,if_neg (by decide)];refine dJ (q5k ?h4)
    case h4=>simp[hltL,hx2,hm,hn]
theorem I6 (c:Ci) (hr:RA c.ands) (hs:(c.inits.length+c.nexts.length+c.bads.length+c.holds.length)*8<=maxBytes):ac pg 213 [ciV c] gh=some (I (ciE c),gh):=by
 have hm:=MB;obtain⟨ins,ands,inp,st,A,B',C,D⟩:=c;simp only at hr hs;have hC:=EC (ins:=ins) (gh:=gh) hr;have fin:∀(e:Int) (s:St),s=⟨[(2,I e)],[],gh⟩->ab pg q98 ⟨[(0,.agg [I ins,.sl false 2 (ands.map aj),I inp,I st,LI A,LI B',LI C,LI D])],[],gh⟩=some (.ret,s)->ac pg 213 [.agg [I ins,.sl false 2 (ands.map aj),I inp,I st,LI A,LI B',LI C,LI D]] gh=some (I e,gh):=by intro e s hs' hrun;subst hs';refine aq (fn:=q99) rfl rfl hrun ?_;simp[am,results,q99,ao,au,ai,get]
 unfold ciE;simp only[ciV];by_cases he:bq ins ands=0
 ·rw [if_pos he]
  rw[he] at hC;have hz:=dK he;have hL:=λ(lits:List Int) (hs:Sz lits.length)=>EE (gh:=gh) (lits:=lits) hz.1 hz.2.1 hs
  have h1L:=λ(n:Int)=>wh (gh:=gh) hz.1 hz.2.1 n
  rw[I5];simp only[fq] at hC hL h1L;generalize dt ins ands=p at *;generalize ands.map aj=G at *;by_cases h1:inp<0
  ·rw[if_pos h1]
   refine fin 4 _ rfl (q16 ?h1)
   case h1=>simp[hC,h1]
  rw[if_neg h1];by_cases h2:st<0
  ·rw[if_pos h2]
   refine fin 4 _ rfl (q16 ?h2)
   case h2=>simp[hC,h1,h2]
  rw[if_neg h2];by_cases h3:WI.wrap (inp+st)=ins
  ·rw [if_pos h3]
   by_cases h4:(A.length:Int)=st
   ·rw [if_pos h4]
    by_cases h5:(B'.length:Int)=st
    ·rw [if_pos h5]
     have hl:=yX (inp:=inp) (st:=st) (B':=B') (C:=C) (D:=D) (A:=A) h1L (by simp only[Sz];omega) A.length 0 (by omega);have hB:=hL B' (by simp only[Sz];omega);have hC':=hL C (by simp only[Sz];omega);have hD:=hL D (by simp only[Sz];omega);simp only[bL,aX,pG,LI] at hl hB hC' hD;generalize (A.all λn=>n== -1||p n)=a at *;generalize B'.all p=b at *;generalize C.all p=c at *;generalize D.all p=d at *;simp only[LI] at *
     have hk:ab pg q4l ⟨[(1,.ptr false 0 0)],[[I ins,.sl false 2 G,I inp,I st,.sl false 1 (A.map I),.sl false 1 (B'.map I),.sl false 1 (C.map I),.sl false 1 (D.map I)]],gh⟩=some (.ret,⟨[(2,I (if (b&&(c&&d))=true then 0 else 5))],[],gh⟩):=by
      refine qng ?_;cases b
      ·simp[hB]
      ·cases c
       ·simp[hB,hC']
       ·cases d
        ·simp[hB,hC',hD]
        ·simp[hB,hC',hD]
     have hlA:(A.map I).length=A.length:=bC _;have hlB:(B'.map I).length=B'.length:=bC _;cases a with
     |true=>
      rw[if_pos rfl] at hl;rw[Bool.true_and];have er:(if (b&&(c&&d))=true then 0 else 5:Int)=if (b&&(c&&d))=true then (0:Int) else 5:=rfl
      generalize (if (b&&(c&&d))=true then (0:Int) else 5)=r at *;refine fin r _ rfl (q16 ?h3)
      case h3=>simp[hC,h1,h2,h3,h4,h5,hl,hk]
     |false=>
      rw[if_neg (by decide)] at hl;rw[Bool.false_and,if_neg (by decide)];refine fin 5 _ rfl (q16 ?h4)
      case h4=>simp[hC,h1,h2,h3,h4,h5,hl]
    ·rw[if_neg h5]
     refine fin 1 _ rfl (q16 ?h5)
     case h5=>simp[hC,h1,h2,h3,h4,h5]
   ·rw[if_neg h4]
    refine fin 1 _ rfl (q16 ?h6)
    case h6=>simp[hC,h1,h2,h3,h4]
  ·rw[if_neg h3]
   refine fin 4 _ rfl (q16 ?h7)
   case h7=>simp[hC,h1,h2,h3]
 ·rw[if_neg he]
  simp only[fq] at hC;generalize bq ins ands=e at *;generalize ands.map aj=G at *;refine fin e _ rfl (q16 ?h8)
  case h8=>simp[hC,he]
end
section
variable {m:Md} {ins:Int} {v:List Bool} {A:List (Int×Int)} {bits:List (List Int)} {bvs:List (List Bool)} {V:List Int}
theorem I7 (h:cY m=0) (hV:InW m.nodes V) (hr:gz m bits) (hB:BitsOk ins v A m.nodes bits bvs V) {p:Int} (hp:0<=p/\p.toNat<bits.length):bvs.getD p.toNat []=cB (V.getD p.toNat 0).toNat 0 (wAt m.nodes p).toNat:=by have h1:=hB.wd p.toNat hp.2;have h2:=hB.nm p.toNat hp.2;have h3:=hV p.toNat (by rw[hB.al];exact hp.2);rw[show ((p.toNat:Nat):Int)=p by omega] at h1 h3;refine wB (by rw[gm];omega) ?_;have:=yr h3.1 h3.2;omega
theorem tu (h:cY m=0) (hV:InW m.nodes V) (hr:gz m bits) (hB:BitsOk ins v A m.nodes bits bvs V):∀st:List Int,(∀s∈st,s∈ak m.nodes 3)->Ls ins v A (dS bits m.nexts st) (cy m.nodes st (ji V m.nexts st))
 |[],_=>trivial
 |s::st,hs=>by
  have ho:=hr.st s (hs s (bF ..));have ih:=tu h hV hr hB st (λa ha=>hs a (bG _ ha));have hqm:=kj ho.hq;have hqw:wAt m.nodes s=wAt m.nodes (ch m.nexts s):=mW (pD h).2 _ hqm;have hl:=hB.ls (ch m.nexts s).toNat ho.q1;rw[I7 h hV hr hB ⟨ho.q0,ho.q1⟩,<-hqw] at hl;have e1:dS bits m.nexts (s::st)=bits.getD (ch m.nexts s).toNat []++dS bits m.nexts st:=by unfold dS;rw[cO]
  rw[e1,te,cy];exact hl.app ih
theorem yY {L:List Nd} {P:List (Int×Int)} {W:List Int}:∀st:List Int,(dC L P W st).length=jl L st
 |[]=>rfl
 |s::st=>by
  have ih:=yY (L:=L) (P:=P) (W:=W) st;unfold dC at *;rw[cO,aW,ih,jl]
  congr 1
  split
  ·exact mV _ _ _
  ·exact bN
theorem I8 {xs:List Int} {bs:List Bool} (h:Ls ins v A xs bs):xs.all (dt ins A)=true:=by
 induction xs generalizing bs with
 |nil=>rfl
 |cons x xs ih=>
  match bs,h with
  |_::_,h=>rw[List.all_cons,h.1.1,ih h.2];rfl
theorem yZ (hr:gz m bits) (hB:BitsOk ins v A m.nodes bits bvs V) {l:List Int} (hl:∀a∈l,a∈m.bads++m.holds):(cq bits l).all (dt ins A)=true:=by
 rw[bS];intro x hx;obtain⟨a,ha,rfl⟩:=List.mem_map.1 hx;obtain⟨h1,h2⟩:=hr.mks a (hl a ha);have h3:=hB.ls a.toNat h1.2;generalize bits.getD a.toNat []=L at *
 match L,h3 with
 |[],_=>exact absurd rfl h2
 |y::L,h3=>
  match bvs.getD a.toNat [],h3 with
  |_::_,h3=>exact h3.1.1
theorem I9 {L:List Nd} {P:List (Int×Int)} {W:List Int} (hi:0<=ins) (st:List Int):(mP (dC L P W st)).all (dt ins A)=true:=by
 have h01:dt ins A 0=true/\dt ins A 1=true:=by unfold dt eG;rw[aH,aH];omega
 have hc:∀(N m i:Nat),∀x∈cI N i m,dt ins A x=true:=by
  intro N m
  induction m with
  |zero=>intro i x hx;cases hx
  | succ m ih=>
   intro i x hx;rw[cI] at hx;rcases List.mem_cons.1 hx with rfl|hx
   ·have:N/2^i%2=0\/N/2^i%2=1:=by omega
    rcases this with e|e
    ·rw[e];exact h01.1
    ·rw[e];exact h01.2
   ·exact ih _ x hx
 rw[bS];intro x hx;obtain⟨hx,hne⟩:x∈dC L P W st/\x≠ -1:=by unfold mP at hx;simpa using hx
 unfold dC at hx;obtain⟨s,_,hx⟩:=List.mem_flatMap.1 hx;split at hx
 ·exact hc _ _ _ x hx
 ·exact absurd (List.eq_of_mem_replicate hx) hne
theorem Ja (hc:bq ins A=0):RA A:=by obtain⟨hi,hl,hok,_⟩:=dK hc;intro x hx;obtain⟨i,hi2,rfl⟩:=cH.1 hx;have:=nU hok hi2;unfold fJ at this;omega
theorem y5 (h:cY m=0) (hc:bq (inN m) A=0) (hV:InW m.nodes V) (hr:gz m bits) (hB:BitsOk (inN m) v A m.nodes bits bvs V):ciE (fW (inN m) A (bu m.nodes 2) (bu m.nodes 3) m bits)=0/\((dS bits m.nexts (ak m.nodes 3)).length:Int)=bu m.nodes 3/\((dC m.nodes m.inits (dI m) (ak m.nodes 3)).length:Int)=bu m.nodes 3:=by
 obtain⟨i2,i3,i0,i16⟩:=pE h;have hn:=tu h hV hr hB (ak m.nodes 3) (λs hs=>hs);have hnl:((dS bits m.nexts (ak m.nodes 3)).length:Int)=bu m.nodes 3:=by rw[<-hn.len,mY (by simp[ji]),km h]
 have hil:((dC m.nodes m.inits (dI m) (ak m.nodes 3)).length:Int)=bu m.nodes 3:=by rw[yY,km h]
 refine⟨?_,hnl,hil⟩;have ew:WI.wrap (bu m.nodes 2+bu m.nodes 3)=inN m:=by unfold inN at *;exact a9 (by omega) (by omega)
 unfold ciE fW;simp only;rw[if_pos hc,if_neg (by omega),if_neg (by omega),if_pos ew,if_pos hil,if_pos hnl,I9 i0,I8 hn,yZ hr hB (λa ha=>bD _ ha),yZ hr hB (λa ha=>bE _ ha)];rfl
theorem Jb (h:cY m=0) (hr:gz m bits) (hB:BitsOk ins v A m.nodes bits bvs V) {a:Int} (ha:a∈m.bads++m.holds):Lt ins v A ((bits.getD a.toNat []).getD 0 0) (decide (V.getD a.toNat 0=1)):=by
 obtain⟨h1,h2⟩:=hr.mks a ha;have h3:=hB.ls a.toNat h1.2;have h4:=hB.wd a.toNat h1.2;have h5:=hB.nm a.toNat h1.2;rw[show ((a.toNat:Nat):Int)=a by omega,yO h a ha] at h4;generalize bits.getD a.toNat []=L at *;generalize bvs.getD a.toNat []=LB' at *
 match L,LB',h3 with
 |[],_,_=>exact absurd rfl h2
 | y::L,b::bs,h3=>
  have hb:bs=[]:=List.eq_nil_of_length_eq_zero (by simp at h4;omega);subst hb;have e:decide (V.getD a.toNat 0=1)=b:=by rw[<-h5,mH];cases b<;>rfl
  rw[e];exact h3.1
end
section
variable {m0 m1 m2 m3 m4:PV} {al:List Bool} {gh:List GObj} {iN aI aS:Int} {AV II NX BD HD:List PV} {v13 v15:List PV}
def cT (iN aI aS:Int) (AV II NX BD HD:List PV):List PV:=[I iN,.sl false 2 AV,I aI,I aS,.sl false 1 II,.sl false 1 NX,.sl false 1 BD,.sl false 1 HD]
theorem pH {ins:Int} {v:List Bool} {A:List (Int×Int)} (hv:(v.length:Int)=ins) (hc:bq ins A=0) {n:Int} {b:Bool} (h:Lt ins v A n b):ac pg 12 [LB (bt (false::v) A),I n] gh=some (B b,gh):=by have hn:=oi hc h;have hw:=oh h.1;have hl:=nT (false::v) A;rw[bB] at hl;have:=rP (gh:=gh) (v:=bt (false::v) A) (n:=n) hn.1 (by omega) (by omega);rw[h.2] at this;exact this
theorem y8 {ins:Int} {v:List Bool} {A:List (Int×Int)} (hv:(v.length:Int)=ins) (hc:bq ins A=0) {n:Nat} {o:Bool} (hn:n<=1000):∀(rx px:List Int) (rb pb:List Bool),Ls ins v A rx rb->pb.length=px.length->px.length+rx.length=n->
  ab pg q6v ⟨[(3,.ptr false 0 0),(7,.ptr false 1 0),(12,LB (bt (false::v) A)),(13,.sl false 1 v13),(14,.sl o 1 ((pb++rb).map B)),(15,.sl o 1 v15),(16,I (px.length:Int))],[[m0,m1,m2,m3,m4],cT iN aI n AV II ((px++rx).map I) BD HD],gh⟩=
   some (.normal,⟨[(3,.ptr false 0 0),(7,.ptr false 1 0),(12,LB (bt (false::v) A)),(13,.sl false 1 v13),(15,.sl o 1 v15)],[[m0,m1,m2,m3,m4],cT iN aI n AV II ((px++rx).map I) BD HD],gh⟩)
 |[],px,[],pb,_,_,hp=>by
  have hlt:decide ((px.length:Int)<(n:Int))=false:=aF (by simp at hp;omega);unfold cT LB;generalize (bt (false::v) A).map B=AL at *;generalize ((pb++[]).map B)=PB at *;generalize ((px++[]).map I)=PX at *;refine (cm (s1:=?s1) (qhk ?h1)).trans ?r1
  case h1=>simp only[fw,hlt,dq];rfl
  case r1=>simp[keep,co]
 | x::rx,px,b::rb,pb,h,hpb,hp=>by
  simp only[bB] at hp;have hL:=pH (gh:=gh) hv hc h.1;have ih:=y8 (o:=o) hv hc hn rx (px++[x]) rb (pb++[b]) h.2 (by simp[hpb]) (by simp;omega);rw[aZ,aZ,show (px++[x]).length=px.length+1 by simp] at ih;have hX:((px++x::rx).map I)[px.length]?=some (I x):=get_at rfl;have hB:((pb++b::rb).map B)[px.length]?=some (B b):=by rw[<-hpb];simp
  have hlt:decide ((px.length:Int)<(n:Int))=true:=aG (by omega);have hltN:px.length<n:=by omega
  have e2:=wrS' px.length (by omega);have hbb:(b !=b)=false:=by cases b<;>rfl
  simp only[bJ,bI] at ih;unfold cT LB at *;generalize (bt (false::v) A).map B=AL at *;generalize ((pb++b::rb).map B)=PB at *;generalize ((px++x::rx).map I)=PX at *;refine bh (qhk ?h2) ih
  case h2=>
   simp only[fw,hlt,dO];simp[hX,hL,hB,e2]
theorem y9 {ins:Int} {v:List Bool} {A:List (Int×Int)} {L:List Nd} {o:Bool} {st:List PV} {s:Int} {j W at0:Nat} {x:Nd} {fr:Bool} {BB:List PV} (hv:(v.length:Int)=ins) (hc:bq ins A=0) (hst:st[j]?=some (I s)) (hs:0<=s) (hx:L[s.toNat]?=some x) (hxw:x.w=(W:Int)) (hW:W<=8) (hat:at0<=1000)
  (hseg:∀k,k<W->∃(q:Int) (b:Bool),II[at0+k]?=some (I q)/\BB[at0+k]?=some (B b)/\(fr=true->q= -1)/\(fr=false->Lt ins v A q b/\q≠ -1)):∀r k,k+r=W->
  ab pg q6w ⟨[(3,.ptr false 0 0),(7,.ptr false 1 0),(12,LB (bt (false::v) A)),(13,.sl false 1 v13),(15,.sl o 1 BB),(17,I ((at0+k:Nat):Int)),(18,.sl false 1 st),(19,I (j:Int)),(20,B fr),(21,I (k:Int))],[[LN L,m1,m2,m3,m4],cT iN aI aS AV II NX BD HD],gh⟩=
   some (.normal,⟨[(3,.ptr false 0 0),(7,.ptr false 1 0),(12,LB (bt (false::v) A)),(13,.sl false 1 v13),(15,.sl o 1 BB),(17,I ((at0+W:Nat):Int)),(18,.sl false 1 st),(19,I (j:Int))],[[LN L,m1,m2,m3,m4],cT iN aI aS AV II NX BD HD],gh⟩)
 |0,k,h=>by
  obtain rfl:k=W:=by omega
  have hxv:(L.map bm)[s.toNat]?=some (.agg [I x.k,I x.w,I x.a,I x.b,I x.c,I x.n]):=by rw[aB,hx];rfl
  rw[hxw] at hxv;unfold cT LB LN;generalize (bt (false::v) A).map B=AL at *;generalize L.map bm=LV at *;generalize ((at0+k:Nat):Int)=q at *;refine (cm (s1:=⟨[(3,.ptr false 0 0),(7,.ptr false 1 0),(12,.sl false 1 AL),(13,.sl false 1 v13),(15,.sl o 1 BB),(17,I q),(18,.sl false 1 st),(19,I (j:Int)),(20,B fr),(21,I (k:Int)),(194,B false)],[[.sl false 6 LV,m1,m2,m3,m4],[I iN,.sl false 2 AV,I aI,I aS,.sl false 1 II,.sl false 1 NX,.sl false 1 BD,.sl false 1 HD]],gh⟩) (qb3 ?h1)).trans ?r1
  case h1=>simp[hst,hs,hxv]
  case r1=>simp[keep,co]
 | r+1,k,h=>by
  have hk:k<W:=by omega
  obtain⟨q,b,hI,hB,hf1,hf2⟩:=hseg k hk;have hxv:(L.map bm)[s.toNat]?=some (.agg [I x.k,I x.w,I x.a,I x.b,I x.c,I x.n]):=by rw[aB,hx];rfl
  rw[hxw] at hxv;have ih:=y9 (o:=o) hv hc hst hs hx hxw hW hat hseg r (k+1) (by omega);have e2:=wrS' k (by omega);have e3:WI.wrap (((at0+k:Nat):Int)+1)=((at0+(k+1):Nat):Int):=by rw[a9 (by omega) (by omega)];omega
  have hge:(0:Int)<=((at0+k:Nat):Int):=by omega
  have hkI:((k:Int)<(W:Int)):=by omega
  have htn:((at0+k:Nat):Int).toNat=at0+k:=by omega
  unfold cT at *;cases fr with
  |true=>
   have hq:=hf1 rfl;subst hq;unfold LB LN at *;generalize (bt (false::v) A).map B=AL at *;generalize L.map bm=LV at *;generalize ((at0+k:Nat):Int)=q1 at *;generalize ((at0+(k+1):Nat):Int)=q2 at *;generalize at0+k=q3 at *;refine bh (qb3 ?h2) ih
   case h2=>simp[hst,hs,hxv,hk,hge,htn,hI,e2,e3]
  |false=>
   obtain⟨hlit,hne⟩:=hf2 rfl;have hL:=pH (gh:=gh) hv hc hlit;unfold LB LN at *;generalize (bt (false::v) A).map B=AL at *;generalize L.map bm=LV at *;generalize ((at0+k:Nat):Int)=q1 at *;generalize ((at0+(k+1):Nat):Int)=q2 at *;generalize at0+k=q3 at *;refine bh (qb3 ?h3) ih
   case h3=>simp[hst,hs,hxv,hk,hge,htn,hI,hne,hL,hB,e2,e3]
theorem Jc {o:Bool} {st BB AL:List PV} {q:Int} {j:Nat} {LL CC:List PV} (hj:j<=1000) (hLL:LL=[m0,m1,m2,m3,m4]) (hCC:CC=cT iN aI aS AV II NX BD HD) :
  ab pg q3z ⟨[(3,.ptr false 0 0),(7,.ptr false 1 0),(12,.sl false 1 AL),(13,.sl false 1 v13),(15,.sl o 1 BB),(17,I q),(18,.sl false 1 st),(19,I (j:Int))],[LL,CC],gh⟩=
   some (.normal,⟨[(3,.ptr false 0 0),(7,.ptr false 1 0),(12,.sl false 1 AL),(13,.sl false 1 v13),(15,.sl o 1 BB),(17,I q),(18,.sl false 1 st),(19,I ((j+1:Nat):Int))],[LL,CC],gh⟩):=by
 subst hLL hCC;unfold cT;exact qno (by simp[wrS' j (by omega)])
theorem za {ins:Int} {v:List Bool} {A:List (Int×Int)} {V:List Int} (hv:(v.length:Int)=ins) (hc:bq ins A=0) {mk cb:List Int} (hl:mk.length<=1000) (hcb:cb.length=mk.length) (hm:∀(j:Nat) (a q:Int),mk[j]?=some a->cb[j]?=some q->(0<=a/\a.toNat<V.length)/\Lt ins v A q (decide (V.getD a.toNat 0=1))):∀k j,j+k=mk.length->
  ab pg q6x ⟨[(3,.ptr false 0 0),(7,.ptr false 1 0),(12,LB (bt (false::v) A)),(13,LI V),(22,I (j:Int))],[[m0,m1,m2,LI mk,m4],cT iN aI aS AV II NX (cb.map I) HD],gh⟩=
   some (.normal,⟨[(3,.ptr false 0 0),(7,.ptr false 1 0),(12,LB (bt (false::v) A)),(13,LI V)],[[m0,m1,m2,LI mk,m4],cT iN aI aS AV II NX (cb.map I) HD],gh⟩)
 |0,j,h=>by
  have hlt:decide ((j:Int)<(mk.length:Int))=false:=aF (by omega);have hml:(mk.map I).length=mk.length:=by simp
  unfold cT LB LI;generalize (bt (false::v) A).map B=AL at *;generalize mk.map I=MK at *;generalize cb.map I=CB at *;generalize V.map I=VI at *;refine (cm (s1:=?s1) (qhm ?h1)).trans ?r1
  case h1=>simp only[ig,ie,ii,fw,hml,hlt,dq];rfl
  case r1=>simp[keep,co]
 | k+1,j,h=>by
  have hj:j<mk.length:=by omega
  obtain⟨h1,h2⟩:=hm j _ _ (aA hj) (aA (by omega));have hM:(mk.map I)[j]?=some (I mk[j]):=by rw[aB,aA hj];rfl
  have hC:(cb.map I)[j]?=some (I (cb[j]'(by omega))):=by rw[aB,aA (by omega)];rfl
  have hL:=pH (gh:=gh) hv hc h2;have hvv:=mO h1.2;have hlt:decide ((j:Int)<(mk.length:Int))=true:=aG (by omega);have hml:(mk.map I).length=mk.length:=by simp
  have e2:=wrS' j (by omega);have ha0:=h1.1;have ih:=za hv hc hl hcb hm k (j+1) (by omega);have hbb:∀y:Int,(decide (y=1) !=(y==1))=false:=λy=>by
   by_cases hy:y=1
   ·subst hy;rfl
   ·rw[aF hy,bA hy];rfl
  generalize mk[j]=a at *;generalize cb[j]'(by omega)=q at *;generalize V.getD a.toNat 0=y at *;have hby:=hbb y;unfold cT LB LI at *;generalize (bt (false::v) A).map B=AL at *;generalize mk.map I=MK at *;generalize cb.map I=CB at *;generalize V.map I=VI at *;refine bh (qhm ?h2) ih
  case h2=>
   simp only[ig,ie,ii,fw,hml,hlt,dO];simp[hM,hC,hL,ha0,hvv,e2]
theorem zb {ins:Int} {v:List Bool} {A:List (Int×Int)} {V:List Int} (hv:(v.length:Int)=ins) (hc:bq ins A=0) {mk cb:List Int} (hl:mk.length<=1000) (hcb:cb.length=mk.length) (hm:∀(j:Nat) (a q:Int),mk[j]?=some a->cb[j]?=some q->(0<=a/\a.toNat<V.length)/\Lt ins v A q (decide (V.getD a.toNat 0=1))):∀k j,j+k=mk.length->
  ab pg q6y ⟨[(3,.ptr false 0 0),(7,.ptr false 1 0),(12,LB (bt (false::v) A)),(13,LI V),(23,I (j:Int))],[[m0,m1,m2,m3,LI mk],cT iN aI aS AV II NX BD (cb.map I)],gh⟩=
   some (.normal,⟨[],[],gh⟩)
 |0,j,h=>by
  have hlt:decide ((j:Int)<(mk.length:Int))=false:=aF (by omega);have hml:(mk.map I).length=mk.length:=by simp
  unfold cT LB LI;generalize (bt (false::v) A).map B=AL at *;generalize mk.map I=MK at *;generalize cb.map I=CB at *;generalize V.map I=VI at *;refine (cm (s1:=?s1) (qhn ?h1)).trans ?r1
  case h1=>simp only[ig,ie,ii,fw,hml,hlt,dq];rfl
  case r1=>simp[keep,co]
 | k+1,j,h=>by
  have hj:j<mk.length:=by omega
  obtain⟨h1,h2⟩:=hm j _ _ (aA hj) (aA (by omega));have hM:(mk.map I)[j]?=some (I mk[j]):=by rw[aB,aA hj];rfl
  have hC:(cb.map I)[j]?=some (I (cb[j]'(by omega))):=by rw[aB,aA (by omega)];rfl
  have hL:=pH (gh:=gh) hv hc h2;have hvv:=mO h1.2;have hlt:decide ((j:Int)<(mk.length:Int))=true:=aG (by omega);have hml:(mk.map I).length=mk.length:=by simp
  have e2:=wrS' j (by omega);have ha0:=h1.1;have ih:=zb hv hc hl hcb hm k (j+1) (by omega);generalize mk[j]=a at *;generalize cb[j]'(by omega)=q at *;generalize V.getD a.toNat 0=y at *;unfold cT LB LI at *;generalize (bt (false::v) A).map B=AL at *;generalize mk.map I=MK at *;generalize cb.map I=CB at *;generalize V.map I=VI at *;refine bh (qhn ?h2) ih
  case h2=>
   simp only[ig,ie,ii,fw,hml,hlt,dO];simp[hM,hC,hL,ha0,hvv,e2]
theorem zc {ins:Int} {v:List Bool} {A:List (Int×Int)} {m:Md} {V0 IL:List Int} {BL:List Bool} {o:Bool} (hv:(v.length:Int)=ins) (hc:bq ins A=0) (hpl:Sz m.inits.length) (hV0:∀s,eQ m.inits s=true->0<=ch m.inits s):∀(rs ps:List Int) (pI:List Int) (pB:List Bool) (ws:List Int),ws.length=rs.length->pB.length=pI.length->pI.length+8*rs.length<=1000->ps.length+rs.length<=100->mJ m.nodes rs->
   IL=pI++dC m.nodes m.inits V0 rs->BL=pB++cy m.nodes rs (fL V0 m.inits rs ws)->
  ab pg q40 ⟨[(3,.ptr false 0 0),(7,.ptr false 1 0),(12,LB (bt (false::v) A)),(13,.sl false 1 v13),(15,.sl o 1 (BL.map B)),(17,I (pI.length:Int)),(18,LI (ps++rs)),(19,I (ps.length:Int))],[[LN m.nodes,LP m.inits,LP m.nexts,LI m.bads,LI m.holds],cT iN aI aS AV (IL.map I) NX BD HD],gh⟩=
   some (.normal,⟨[(3,.ptr false 0 0),(7,.ptr false 1 0),(12,LB (bt (false::v) A)),(13,.sl false 1 v13)],[[LN m.nodes,LP m.inits,LP m.nexts,LI m.bads,LI m.holds],cT iN aI aS AV (IL.map I) NX BD HD],gh⟩)
 |[],ps,pI,pB,ws,_,_,_,_,_,_,_=>by
  have hlt:decide ((ps.length:Int)<(((ps++[]).map I).length:Int))=false:=aF (by simp);unfold cT LB LI LN LP at *;generalize (bt (false::v) A).map B=AL at *;generalize (ps++[]).map I=PS at *;generalize BL.map B=BB at *;generalize IL.map I=IV at *;generalize m.nodes.map bm=LV at *;generalize m.inits.map aj=JV at *;generalize m.nexts.map aj=NV at *;generalize m.bads.map I=BV at *;generalize m.holds.map I=HV at *;refine (cm (s1:=?s1) (qhl ?h1)).trans ?r1
  case h1=>simp only[ig,ie,ii,fw,hlt,dq];rfl
  case r1=>simp[keep,co]
 |s::rs,ps,pI,pB,[],hws,_,_,_,_,_,_=>by cases hws
 | s ::rs,ps,pI,pB,w::ws,hws,hpb,hpi,hps,hwd,hIL,hBL=>by
  simp only[bB] at hws hpi hps;have hso:=hwd s (bF ..);obtain⟨x,hx,hxw⟩:=tr hso.1;obtain⟨W,hW⟩:∃W:Nat,x.w=W:=⟨x.w.toNat,by have:=hso.2;omega⟩
  have hw8:W<=8:=by have:=hso.2;omega
  have hWt:(wAt m.nodes s).toNat=W:=by omega
  have hi0:=(dK hc).1.1;have hP:=tc (gh:=gh) (ps:=m.inits) (s:=s) hpl
  -- the segments
  obtain⟨sI,sB,hsI,hsB,eI,eB,hseg⟩:∃(sI:List Int) (sB:List Bool),sI.length=W/\sB.length=W/\dC m.nodes m.inits V0 (s::rs)=sI++dC m.nodes m.inits V0 rs/\cy m.nodes (s::rs) (fL V0 m.inits (s::rs) (w::ws))=sB++cy m.nodes rs (fL V0 m.inits rs ws)/\
    (∀k,k<W->∃(q:Int) (b:Bool),sI[k]?=some q/\sB[k]?=some b/\(decide (ch m.inits s<0)=true->q= -1)/\(decide (ch m.inits s<0)=false->Lt ins v A q b/\q≠ -1)):=by
   cases hp:eQ m.inits s with
   |false=>
    refine⟨List.replicate W (-1),cB w.toNat 0 W,by simp,gm _ _ _,?_,?_,λk hk=>⟨-1,(cB w.toNat 0 W)[k]'(by rw[gm];exact hk),by simp[hk],aA _,λ_=>rfl,λh=>?_⟩⟩
    ·unfold dC;rw[cO,hp,hWt];rfl
    ·rw[fL,hp,cy,hWt];rfl
    ·rw[pj hp] at h;cases h
   | true=>
    have hp0:=hV0 s hp;refine⟨cI (V0.getD (ch m.inits s).toNat 0).toNat 0 W,cB (V0.getD (ch m.inits s).toNat 0).toNat 0 W,mV _ _ _,gm _ _ _,?_,?_,λk hk=>?_⟩
    ·unfold dC;rw[cO,hp,hWt];rfl
    ·rw[fL,hp,cy,hWt];rfl
    ·have hls:=sY (v:=v) (A:=A) hi0 (V0.getD (ch m.inits s).toNat 0).toNat W 0
     have hcl:=mV (V0.getD (ch m.inits s).toNat 0).toNat W 0;have hbl:=gm (V0.getD (ch m.inits s).toNat 0).toNat W 0;generalize cI (V0.getD (ch m.inits s).toNat 0).toNat 0 W=CI at *;generalize cB (V0.getD (ch m.inits s).toNat 0).toNat 0 W=CB at *;have hg:=hls.get (k:=k) (by omega);refine⟨CI[k]'(by omega),CB[k]'(by omega),aA _,aA _,λh=>?_,λ_=>?_⟩
     ·rw[aH] at h;omega
     ·rw[aM,aA (by omega),aM,aA (by omega)] at hg
      have hg':Lt ins v A CI[k] CB[k]:=hg;refine⟨hg',λe=>?_⟩;have:=oh hg'.1;omega
  have hn:((ps++s::rs).map I)[ps.length]?=some (I s):=get_at rfl;have hseg2:∀k,k<W->∃(q:Int) (b:Bool),(IL.map I)[pI.length+k]?=some (I q)/\(BL.map B)[pI.length+k]?=some (B b)/\(decide (ch m.inits s<0)=true->q= -1)/\(decide (ch m.inits s<0)=false->Lt ins v A q b/\q≠ -1):=by
   intro k hk;obtain⟨q,b,h1,h2,h3,h4⟩:=hseg k hk;refine⟨q,b,?_,?_,h3,h4⟩
   ·rw[hIL,eI,aB,aR (by omega),Nat.add_sub_cancel_left,aJ (by omega),h1];rfl
   ·rw[hBL,eB,aB,aR (by omega),hpb,Nat.add_sub_cancel_left,aJ (by omega),h2];rfl
  have h3:=y9 (m1:=LP m.inits) (m2:=LP m.nexts) (m3:=LI m.bads) (m4:=LI m.holds) (gh:=gh) (iN:=iN) (aI:=aI) (aS:=aS) (AV:=AV) (NX:=NX) (BD:=BD) (HD:=HD) (v13:=v13) (o:=o) (st:=(ps++s::rs).map I) (j:=ps.length) (at0:=pI.length) hv hc hn hso.1.1 hx hW hw8 (by omega) hseg2 W 0 (by omega)
  have hk5:=Jc (m0:=LN m.nodes) (m1:=LP m.inits) (m2:=LP m.nexts) (m3:=LI m.bads) (m4:=LI m.holds) (gh:=gh) (iN:=iN) (aI:=aI) (aS:=aS) (AV:=AV) (II:=IL.map I) (NX:=NX) (BD:=BD) (HD:=HD) (v13:=v13) (o:=o) (st:=(ps++s::rs).map I) (BB:=BL.map B) (AL:=(bt (false::v) A).map B) (q:=((pI.length+W:Nat):Int)) (j:=ps.length) (by omega) rfl rfl;have ih:=zc (m:=m) (V0:=V0) (IL:=IL) (BL:=BL) (o:=o) hv hc hpl hV0 rs (ps++[s]) (pI++sI) (pB++sB) ws (by omega) (by simp[hpb,hsI,hsB]) (by simp[hsI];omega) (by simp;omega) (λa ha=>hwd a (bG _ ha)) (by rw[hIL,eI,aZ]) (by rw[hBL,eB,aZ])
  rw[aZ ps [s] rs,show (ps++[s]).length=ps.length+1 by simp,show (pI++sI).length=pI.length+W by simp[hsI]] at ih;simp only[bJ,bI] at ih;simp only[cA,aX] at h3;have hlt:decide ((ps.length:Int)<(((ps++s::rs).map I).length:Int))=true:=aG (by simp;omega);unfold cT LB LI LN LP at *;generalize ((pI.length+W:Nat):Int)=q2 at *;generalize (pI.length:Int)=q1 at *;generalize (bt (false::v) A).map B=AL at *;generalize (ps++s::rs).map I=PS at *;generalize BL.map B=BB at *;generalize IL.map I=IV at *;generalize m.nodes.map bm=LV at *;generalize m.inits.map aj=JV at *;generalize m.nexts.map aj=NV at *
  generalize m.bads.map I=BV at *;generalize m.holds.map I=HV at *;refine bh (qhl ?h2) ih
  case h2=>
   simp only[ig,ie,ii,fw,hlt,dO];simp[hn,hP,h3,hk5];rfl
end
theorem Jd {m:Md} (hm:sV m):Sz m.inits.length/\Sz m.nexts.length:=by have h1:=hm.inits;have h2:=hm.nexts;have:reachBytes=140737488351232:=rfl;simp only[Sz];omega
theorem zd {m:Md} {bits:List (List Int)} {V:List Int} (h:cY m=0) (hV:InW m.nodes V) (hl:V.length=m.nodes.length) (hr:gz m bits):∀st:List Int,(∀s∈st,s∈ak m.nodes 3)->eW m.nodes st (ji V m.nexts st)=0
 |[],_=>by rw[eW]
 |s::st,hs=>by have ho:=hr.st s (hs s (bF ..));have hqw:wAt m.nodes s=wAt m.nodes (ch m.nexts s):=mW (pD h).2 _ (kj ho.hq);have hb:=hr.bl;have hq1:=ho.q1;have hq0:=ho.q0;have h3:=hV (ch m.nexts s).toNat (by omega);rw[show (((ch m.nexts s).toNat:Nat):Int)=ch m.nexts s by omega,<-hqw] at h3;rw[te,eW,if_pos h3];exact zd h hV hl hr st (λa ha=>hs a (bG _ ha))
theorem ze {m:Md} {bits:List (List Int)} (h:cY m=0) (hV:InW m.nodes (dI m)) (hr:gz m bits):∀(st ws:List Int),ws.length=st.length->(∀s∈st,s∈ak m.nodes 3)->eW m.nodes st ws=0->(fL (dI m) m.inits st ws).length=st.length/\eW m.nodes st (fL (dI m) m.inits st ws)=0
 |[],ws,_,_,_=>by cases ws<;>exact⟨rfl,rfl⟩
 |s::st,[],hl,_,_=>by cases hl
 | s::st,w::ws,hl,hs,hw=>by
  have ho:=hr.st s (hs s (bF ..));have hlt:0<=w/\w<((2^(wAt m.nodes s).toNat:Nat):Int):=by rw[eW] at hw;exact aV λhn=>by rw[if_neg hn] at hw;cases hw
  rw[eW,if_pos hlt] at hw;obtain⟨i1,i2⟩:=ze h hV hr st ws (by simpa using hl) (λa ha=>hs a (bG _ ha)) hw;refine⟨by rw[fL,bB,i1,bB],?_⟩;by_cases hp:eQ m.inits s=true
  ·obtain⟨p0,p1,-,-⟩:=ho.p0 hp
   have hqw:wAt m.nodes s=wAt m.nodes (ch m.inits s):=mW (pD h).1 _ (kj hp);have h3:=hV (ch m.inits s).toNat p1;rw[show (((ch m.inits s).toNat:Nat):Int)=ch m.inits s by omega,<-hqw] at h3;rw[fL,if_pos hp,eW,if_pos h3];exact i2
  ·rw[fL,if_neg hp,eW,if_pos hlt]
   exact i2
structure ko (m:Md) (ss ks:List Int) (A:List (Int×Int)) (bits:List (List Int)) (bvs:List (List Bool)):Prop where
 h:cY m=0
 hs:eM m.nodes (ak m.nodes 3) ss=0
 hk:eM m.nodes (ak m.nodes 2) ks=0
 hc:bq (inN m) A=0
 hA:A.length<=400000
 hr:gz m bits
 hB:BitsOk (inN m) (inB m ss ks) A m.nodes bits bvs (dB m ss ks)
section
variable {m:Md} {gh:List GObj} {ss ks:List Int} {A:List (Int×Int)} {bits:List (List Int)} {bvs:List (List Bool)}
theorem tv (h:cY m=0) (hs:eM m.nodes (ak m.nodes 3) ss=0) (hk:eM m.nodes (ak m.nodes 2) ks=0):InW m.nodes (dB m ss ks):=by have:=ln (L:=m.nodes) (λj x hx=>ll h hx) m.nodes.length 0 [] ss ks (by omega) (oZ hs hk);rw[bL] at this;exact this
theorem Je (h:cY m=0):InW m.nodes (dI m):=tv h (pm _) (pm _)
def btC (m:Md) (A:List (Int×Int)) (bits:List (List Int)):List PV:=
 cT (inN m) (bu m.nodes 2) (bu m.nodes 3) (A.map aj) ((dC m.nodes m.inits (dI m) (ak m.nodes 3)).map I) ((dS bits m.nexts (ak m.nodes 3)).map I) ((cq bits m.bads).map I) ((cq bits m.holds).map I)
theorem pJ (l:List Int):(cq bits l).length=l.length:=by unfold cq;simp
theorem zf (t:ko m ss ks A bits bvs) {l:List Int} (hl:∀a∈l,a∈m.bads++m.holds):∀(j:Nat) (a q:Int),l[j]?=some a->(cq bits l)[j]?=some q->(0<=a/\a.toNat<(dB m ss ks).length)/\Lt (inN m) (inB m ss ks) A q (decide ((dB m ss ks).getD a.toNat 0=1)):=by intro j a q h1 h2;have ha:=hl a (aP h1);unfold cq at h2;rw[aB,h1] at h2;simp only[cD,bU] at h2;subst h2;obtain⟨h3,-⟩:=t.hr.mks a ha;have:=t.hr.bl;refine⟨⟨h3.1,?_⟩,Jb t.h t.hr t.hB ha⟩;rw[mM];omega
theorem Jf:ab pg q41 ⟨[],[],gh⟩=some (.ret,⟨[(6,B true)],[],gh⟩):=qnp rfl
theorem Jg (t:ko m ss ks A bits bvs):ab pg q42 ⟨[(3,.ptr false 0 0),(7,.ptr false 1 0),(12,LB (bt (false::inB m ss ks) A)),(13,LI (dB m ss ks))],[[LN m.nodes,LP m.inits,LP m.nexts,LI m.bads,LI m.holds],btC m A bits],gh⟩=some (.ret,⟨[(6,B true)],[],gh⟩):=by
 have hml:=pq t.h;have h5:=zb (m0:=LN m.nodes) (m1:=LP m.inits) (m2:=LP m.nexts) (m3:=LI m.bads) (gh:=gh) (iN:=inN m) (aI:=bu m.nodes 2) (aS:=bu m.nodes 3) (AV:=A.map aj) (II:=(dC m.nodes m.inits (dI m) (ak m.nodes 3)).map I) (NX:=(dS bits m.nexts (ak m.nodes 3)).map I) (BD:=(cq bits m.bads).map I) (m7 t.h t.hs t.hk) t.hc (mk:=m.holds) (by omega) (pJ m.holds) (zf t (λa ha=>bE _ ha)) m.holds.length 0 (by omega);simp only[aX] at h5;unfold btC cT LB LI at *;generalize (bt (false::inB m ss ks) A).map B=AL at *;generalize (dB m ss ks).map I=VI at *
 generalize (dC m.nodes m.inits (dI m) (ak m.nodes 3)).map I=L1 at *;generalize (dS bits m.nexts (ak m.nodes 3)).map I=L2 at *;generalize (cq bits m.bads).map I=L3 at *;generalize (cq bits m.holds).map I=L4 at *;generalize m.bads.map I=L5 at *;generalize m.holds.map I=L6 at *;generalize A.map aj=L7 at *;unfold LN LP at *;generalize m.nodes.map bm=L8 at *;generalize m.inits.map aj=L9 at *;generalize m.nexts.map aj=L10 at *;exact qnq (by simp[h5,Jf])
theorem Jh (t:ko m ss ks A bits bvs):ab pg q43 ⟨[(3,.ptr false 0 0),(7,.ptr false 1 0),(12,LB (bt (false::inB m ss ks) A)),(13,LI (dB m ss ks))],[[LN m.nodes,LP m.inits,LP m.nexts,LI m.bads,LI m.holds],btC m A bits],gh⟩=some (.ret,⟨[(6,B true)],[],gh⟩):=by
 have hml:=pq t.h;have h5:=za (m0:=LN m.nodes) (m1:=LP m.inits) (m2:=LP m.nexts) (m4:=LI m.holds) (gh:=gh) (iN:=inN m) (aI:=bu m.nodes 2) (aS:=bu m.nodes 3) (AV:=A.map aj) (II:=(dC m.nodes m.inits (dI m) (ak m.nodes 3)).map I) (NX:=(dS bits m.nexts (ak m.nodes 3)).map I) (HD:=(cq bits m.holds).map I) (m7 t.h t.hs t.hk) t.hc (mk:=m.bads) (by omega) (pJ m.bads) (zf t (λa ha=>bD _ ha)) m.bads.length 0 (by omega);have h7:=Jg (gh:=gh) t;simp only[aX] at h5;unfold btC cT LB LI at *;generalize (bt (false::inB m ss ks) A).map B=AL at *;generalize (dB m ss ks).map I=VI at *
 generalize (dC m.nodes m.inits (dI m) (ak m.nodes 3)).map I=L1 at *;generalize (dS bits m.nexts (ak m.nodes 3)).map I=L2 at *;generalize (cq bits m.bads).map I=L3 at *;generalize (cq bits m.holds).map I=L4 at *;generalize m.bads.map I=L5 at *;generalize m.holds.map I=L6 at *;generalize A.map aj=L7 at *;unfold LN LP at *;generalize m.nodes.map bm=L8 at *;generalize m.inits.map aj=L9 at *;generalize m.nexts.map aj=L10 at *;exact qnr (by simp[h5,h7])
theorem Ji (t:ko m ss ks A bits bvs):ab pg q44 ⟨[(3,.ptr false 0 0),(7,.ptr false 1 0),(12,LB (bt (false::inB m ss ks) A)),(13,LI (dB m ss ks)),(15,.sl true 1 ((cy m.nodes (ak m.nodes 3) (gO m ss)).map B))],[[LN m.nodes,LP m.inits,LP m.nexts,LI m.bads,LI m.holds],btC m A bits],gh⟩=some (.ret,⟨[(6,B true)],[],gh⟩):=by
 have hg:=gk t.h;have hl:=hg.len;have hpl:=(lu hg).1;have hkl:=jh hg 3
 have h2:=zc (gh:=gh) (iN:=inN m) (aI:=bu m.nodes 2) (aS:=bu m.nodes 3) (AV:=A.map aj) (NX:=(dS bits m.nexts (ak m.nodes 3)).map I) (BD:=(cq bits m.bads).map I) (HD:=(cq bits m.holds).map I) (v13:=(dB m ss ks).map I) (o:=true) (m:=m) (V0:=dI m) (IL:=dC m.nodes m.inits (dI m) (ak m.nodes 3)) (BL:=cy m.nodes (ak m.nodes 3) (fL (dI m) m.inits (ak m.nodes 3) ss)) (m7 t.h t.hs t.hk) t.hc (by simp only[Sz];omega) (λs hp=>(yj hg _ (kj hp)).1) (ak m.nodes 3) [] [] [] ss (kc t.hs) rfl (by simp;omega) (by simp;omega) (mL t.h 3) rfl rfl;have hN:=j8 (m:=m) (gh:=gh) (kind:=3) (by omega)
 have h6:=Jh (gh:=gh) t;rw[en] at hN;simp only[bZ,bI,aX] at h2;change ab pg q40 ⟨[_,_,_,_,(15,.sl true 1 ((cy m.nodes (ak m.nodes 3) (gO m ss)).map B)),_,_,_],_,_⟩=_ at h2;unfold btC cT LB LI at *;generalize (cy m.nodes (ak m.nodes 3) (gO m ss)).map B=FL at *;generalize (bt (false::inB m ss ks) A).map B=AL at *;generalize (dB m ss ks).map I=VI at *;generalize (dC m.nodes m.inits (dI m) (ak m.nodes 3)).map I=L1 at *;generalize (dS bits m.nexts (ak m.nodes 3)).map I=L2 at *;generalize (cq bits m.bads).map I=L3 at *;generalize (cq bits m.holds).map I=L4 at *;generalize m.bads.map I=L5 at *
 generalize m.holds.map I=L6 at *;generalize A.map aj=L7 at *;generalize (ak m.nodes 3).map I=L11 at *;unfold LN LP at *;generalize m.nodes.map bm=L8 at *;generalize m.inits.map aj=L9 at *;generalize m.nexts.map aj=L10 at *;refine qns ?h4
 case h4=>simp[hN,h2,h6]
theorem Jj (t:ko m ss ks A bits bvs):ab pg q45 ⟨[(3,.ptr false 0 0),(7,.ptr false 1 0),(10,LI ss),(11,LI ks)],[[LN m.nodes,LP m.inits,LP m.nexts,LI m.bads,LI m.holds],btC m A bits],gh⟩=some (.ret,⟨[(6,B true)],[],gh⟩):=by
 have hg:=gk t.h;have hl:=hg.len;obtain⟨i2,i3,i0,i16⟩:=pE t.h;have hV:=tv t.h t.hs t.hk;have hvl:(dB m ss ks).length=m.nodes.length:=mM;obtain⟨hf1,hf2⟩:=ze t.h (Je t.h) t.hr (ak m.nodes 3) ss (kc t.hs) (λs hs=>hs) (by have:=t.hs;unfold eM at this;split at this<;>first|cases this|exact this);have hn2:=zd t.h hV hvl t.hr (ak m.nodes 3) (λs hs=>hs);have hnE:eM m.nodes (ak m.nodes 3) (jj m (dB m ss ks))=0:=by unfold eM jj;rw[if_neg (by simp[ji])];exact hn2
 have hfE:eM m.nodes (ak m.nodes 3) (gO m ss)=0:=by unfold eM gO;rw[if_neg (by rw[hf1];simp)];exact hf2
 have b2:=pF (gh:=gh) t.h t.hk;have b3:=pF (gh:=gh) t.h t.hs;have bn:=pF (gh:=gh) t.h hnE;have bf:=pF (gh:=gh) t.h hfE;have cV:=ye (gh:=gh) (ss:=ss) (ks:=ks) t.h (oZ t.hs t.hk);have cN:=In (gh:=gh) t.h hvl;have cB:=Ij (gh:=gh) t.h (kc t.hs);have hv:=m7 t.h t.hs t.hk;obtain⟨hi,hAl,hok,-⟩:=dK t.hc;have cG:=EG (gh:=gh) (ins:=inN m) (ands:=A) (v:=inB m ss ks) (by omega) (by have:=t.hA;omega) hok hv;have hls:=tu t.h hV t.hr t.hB (ak m.nodes 3) (λs hs=>hs);have hlen:=hls.len;obtain⟨-,hnx,hil⟩:=y5 t.h t.hc hV t.hr t.hB;have hble:=mZ t.h
 obtain⟨nS,hnS⟩:∃n:Nat,bu m.nodes 3=n:=⟨(bu m.nodes 3).toNat,by omega⟩
 have h1:=y8 (m0:=LN m.nodes) (m1:=LP m.inits) (m2:=LP m.nexts) (m3:=LI m.bads) (m4:=LI m.holds) (gh:=gh) (iN:=inN m) (aI:=bu m.nodes 2) (AV:=A.map aj) (II:=(dC m.nodes m.inits (dI m) (ak m.nodes 3)).map I) (BD:=(cq bits m.bads).map I) (HD:=(cq bits m.holds).map I) (v13:=(dB m ss ks).map I) (v15:=(cy m.nodes (ak m.nodes 3) (gO m ss)).map B) (o:=true) hv t.hc (n:=nS) (by omega) (dS bits m.nexts (ak m.nodes 3)) [] (cy m.nodes (ak m.nodes 3) (jj m (dB m ss ks))) [] hls rfl (by simp;omega);have h4:=Ji (gh:=gh) t;have happ:inB m ss ks=cy m.nodes (ak m.nodes 2) ks++cy m.nodes (ak m.nodes 3) ss:=rfl
 have hmx:((cy m.nodes (ak m.nodes 2) ks).length+(cy m.nodes (ak m.nodes 3) ss).length)<=maxBytes:=by have hq:=MB;rw[happ,aW] at hv;omega
 unfold fq at cG;rw[happ] at cG h1 h4;simp only[bZ,bI,aX] at h1;rw[<-hnS] at h1;rw[en] at *;unfold btC cT LB LI at *;rw[bK] at cG;have e2:(cy m.nodes (ak m.nodes 2) ks).length=((cy m.nodes (ak m.nodes 2) ks).map B).length:=by simp
 have e3:(cy m.nodes (ak m.nodes 3) ss).length=((cy m.nodes (ak m.nodes 3) ss).map B).length:=by simp
 rw[e2,e3] at hmx;clear e2 e3 hls hlen happ hv t;generalize (bt (false::(cy m.nodes (ak m.nodes 2) ks++cy m.nodes (ak m.nodes 3) ss)) A).map B=AL at *;generalize (cy m.nodes (ak m.nodes 3) (gO m ss)).map B=FL at *;generalize (cy m.nodes (ak m.nodes 3) (jj m (dB m ss ks))).map B=NB at *;generalize (cy m.nodes (ak m.nodes 2) ks).map B=KB at *;generalize (cy m.nodes (ak m.nodes 3) ss).map B=SB at *;generalize (jj m (dB m ss ks)).map I=NL at *;generalize (gO m ss).map I=FI' at *;generalize (dB m ss ks).map I=VI at *;generalize (dC m.nodes m.inits (dI m) (ak m.nodes 3)).map I=L1 at *
 generalize (dS bits m.nexts (ak m.nodes 3)).map I=L2 at *;generalize (cq bits m.bads).map I=L3 at *;generalize (cq bits m.holds).map I=L4 at *;generalize m.bads.map I=L5 at *;generalize m.holds.map I=L6 at *;generalize A.map aj=L7 at *;generalize ss.map I=L12 at *;generalize ks.map I=L13 at *;unfold LN LP at *;generalize m.nodes.map bm=L8 at *;generalize m.inits.map aj=L9 at *;generalize m.nexts.map aj=L10 at *;refine qnt ?h3
 case h3=>simp[b2,b3,cG,cV,cN,bn,cB,bf,h1,h4,hmx]
theorem Jk {x1 x2:Int} {b:Bool} (h1: -9223372036854775808<=x1) (h2:x1<=9223372036854775807) (h3: -9223372036854775808<=x2) (h4:x2<=9223372036854775807) {nI nS:Nat} (hI:bu m.nodes 2=nI) (hS:bu m.nodes 3=nS)
  (t:ko m (e9 m.nodes (ak m.nodes 3) (fM x1 (2^nS))) (e9 m.nodes (ak m.nodes 2) (fM x2 (2^nI))) A bits bvs):ab pg q46 ⟨[(1,I x1),(2,I x2),(3,.ptr false 0 0),(7,.ptr false 1 0),(111,B b)],[[LN m.nodes,LP m.inits,LP m.nexts,LI m.bads,LI m.holds],btC m A bits],gh⟩=some (.ret,⟨[(6,B true)],[],gh⟩):=by
 have hble:=mZ t.h;have hk3:=Jj (gh:=gh) t;have pS:0<2^nS:=Nat.two_pow_pos _;have pI:0<2^nI:=Nat.two_pow_pos _;have qS:2^nS<=2^10:=bO (by omega) (by omega);have qI:2^nI<=2^10:=bO (by omega) (by omega);have tS:=fU (k:=nS) (by omega) gh;have tI:=fU (k:=nI) (by omega) gh;have cS:=y6 h1 h2 pS gh;have cI:=y6 h3 h4 pI gh;have lS:=y7 x1 pS;have lI:=y7 x2 pI;have wS:=yV (gh:=gh) (kind:=3) (n:=fM x1 (2^nS)) t.h (by omega);have wI:=yV (gh:=gh) (kind:=2) (n:=fM x2 (2^nI)) t.h (by omega);clear qS qI lS lI;rw[en] at wS wI;unfold btC cT at *;rw[hI,hS] at *;clear t;generalize fM x1 (2^nS)=u1 at *
 generalize fM x2 (2^nI)=u2 at *;generalize 2^nS=w1 at *;generalize 2^nI=w2 at *;unfold LI at *;generalize (e9 m.nodes (ak m.nodes 3) u1).map I=SS at *;generalize (e9 m.nodes (ak m.nodes 2) u2).map I=KK at *;generalize (dC m.nodes m.inits (dI m) (ak m.nodes 3)).map I=L1 at *;generalize (dS bits m.nexts (ak m.nodes 3)).map I=L2 at *;generalize (cq bits m.bads).map I=L3 at *;generalize (cq bits m.holds).map I=L4 at *;generalize m.bads.map I=L5 at *;generalize m.holds.map I=L6 at *;generalize A.map aj=L7 at *;unfold LN LP at *;generalize m.nodes.map bm=L8 at *;generalize m.inits.map aj=L9 at *
 generalize m.nexts.map aj=L10 at *;refine qnu ?h2
 case h2=>simp[tS,tI,cS,cI,wS,wI,hk3]
theorem Jl {x1 x2:Int} (h1: -9223372036854775808<=x1) (h2:x1<=9223372036854775807) (h3: -9223372036854775808<=x2) (h4:x2<=9223372036854775807) {nI nS:Nat} (hI:bu m.nodes 2=nI) (hS:bu m.nodes 3=nS)
  (t:ko m (e9 m.nodes (ak m.nodes 3) (fM x1 (2^nS))) (e9 m.nodes (ak m.nodes 2) (fM x2 (2^nI))) A bits bvs):ab pg q47 ⟨[(1,I x1),(2,I x2),(3,.ptr false 0 0),(7,.ptr false 1 0),(8,I 0),(9,I 0),(32,B false)],[[LN m.nodes,LP m.inits,LP m.nexts,LI m.bads,LI m.holds],btC m A bits],[]⟩=some (.ret,⟨[(6,B true)],[],[]⟩):=by
 have hg:=gk t.h;have hl:=hg.len;have hml:=pq t.h;have hk2:=λb=>Jk (b:=b) (gh:=[]) h1 h2 h3 h4 hI hS t
 have hb:=yJ;have hble:=mZ t.h;obtain⟨hci,hnx,hil⟩:=y5 t.h t.hc (tv t.h t.hs t.hk) t.hr t.hB;have hmx:=MB;have f1:=pJ (bits:=bits) m.bads;have f2:=pJ (bits:=bits) m.holds;have hC:=I6 (gh:=[]) (fW (inN m) A (bu m.nodes 2) (bu m.nodes 3) m bits) (Ja t.hc) (by unfold fW;simp only;omega);rw[hci] at hC;have hB2:=oI (m:=m) (gh:=[]) (kind:=2) (by omega);have hB3:=oI (m:=m) (gh:=[]) (kind:=3) (by omega);rw[en] at hB2 hB3;unfold fW ciV at hC;simp only at hC;have g1:((cq bits m.bads).map I).length=(m.bads.map I).length:=by simp[f1]
 have g2:((cq bits m.holds).map I).length=(m.holds.map I).length:=by simp[f2]
 unfold btC cT at *;clear t hml hble hnx hil hmx f1 f2 hci hl hg;generalize bu m.nodes 2=y2 at *;generalize bu m.nodes 3=y3 at *;unfold LI at *;generalize (dC m.nodes m.inits (dI m) (ak m.nodes 3)).map I=L1 at *;generalize (dS bits m.nexts (ak m.nodes 3)).map I=L2 at *;generalize (cq bits m.bads).map I=L3 at *;generalize (cq bits m.holds).map I=L4 at *;generalize m.bads.map I=L5 at *;generalize m.holds.map I=L6 at *;generalize A.map aj=L7 at *;unfold LN LP at *;generalize m.nodes.map bm=L8 at *;generalize m.inits.map aj=L9 at *;generalize m.nexts.map aj=L10 at *;refine qnv ?h1
 case h1=>simp[hb,hC,hB2,hB3,g1,g2,hk2]
theorem Jm {x1 x2:Int} (hm:sV m) (h1: -9223372036854775808<=x1) (h2:x1<=9223372036854775807) (h3: -9223372036854775808<=x2) (h4:x2<=9223372036854775807):ac pg 325 [e8 m,I x1,I x2] []=some (B true,[]):=by
 obtain⟨s1,s2⟩:=Jd hm;have hcm:=Hq (m:=m) (gh:=[]) s1 s2;by_cases h:cY m=0
 ·obtain⟨i2,i3,i0,i16⟩:=pE h
  obtain⟨nI,hI⟩:∃n:Nat,bu m.nodes 2=n:=⟨(bu m.nodes 2).toNat,by omega⟩
  obtain⟨nS,hS⟩:∃n:Nat,bu m.nodes 3=n:=⟨(bu m.nodes 3).toNat,by omega⟩
  have hss:=yT (L:=m.nodes) (ak m.nodes 3) (fM x1 (2^nS));have hkk:=yT (L:=m.nodes) (ak m.nodes 2) (fM x2 (2^nI));obtain⟨A,bits,bvs,hraw,hc,hA,hr,hB⟩:=IU h hss hkk [];have hbl:=IZ h hraw (by unfold fW;simp only;omega);have hk1:=Jl h1 h2 h3 h4 hI hS ⟨h,hss,hkk,hc,hA,hr,hB⟩;rw[h] at hcm;clear hraw hr hB hc hA hss hkk hI hS;unfold btC cT at hk1;unfold fW ciV at hbl;simp only at hbl;rw[en] at *;unfold LI at *;generalize (dC m.nodes m.inits (dI m) (ak m.nodes 3)).map I=L1 at *;generalize (dS bits m.nexts (ak m.nodes 3)).map I=L2 at *;generalize (cq bits m.bads).map I=L3 at *
  generalize (cq bits m.holds).map I=L4 at *;generalize m.bads.map I=L5 at *;generalize m.holds.map I=L6 at *;generalize A.map aj=L7 at *;generalize bu m.nodes 2=y2 at *;generalize bu m.nodes 3=y3 at *;generalize inN m=y4 at *;unfold LN LP at *;generalize m.nodes.map bm=L8 at *;generalize m.inits.map aj=L9 at *;generalize m.nexts.map aj=L10 at *;refine aq (fn:=q1y) (s:=⟨[(6,B true)],[],[]⟩) rfl rfl (qho ?h5) ?r5
  case h5=>
   simp[hbl];rw[tq];simp[hcm,hk1]
  case r5=>simp[am,results,q1y,ao,au,ai,get]
 ·have hbl:=IY (gh:=[]) s1 s2 h
  have hb:=yJ;have hsg:=ED (gh:=[]) (ins:=0) (ands:=[]) (by simp[Sz]);unfold fq at hsg;simp only[bR] at hsg;unfold ci0 ciV LI at hbl;simp only[bR] at hbl;rw[en] at *;generalize cY m=e at *;unfold LN LP LI at *;generalize m.bads.map I=L5 at *;generalize m.holds.map I=L6 at *;generalize m.nodes.map bm=L8 at *;generalize m.inits.map aj=L9 at *;generalize m.nexts.map aj=L10 at *;refine aq (fn:=q1y) (s:=⟨[(6,B true)],[],[]⟩) rfl rfl (qho ?h6) ?r6
  case h6=>
   simp[hbl];rw[tq];simp[hcm,hb,h,hsg];rfl
  case r6=>simp[am,results,q1y,ao,au,ai,get]
end
abbrev zg:List (Bool×List CS):=[(true,xH),(false,[.int]),(false,[.int])]
theorem Jn (qs:List PV) (h:gu zg qs) (_hn:eA qs<=1048576):ac pg 325 qs []=some (B true,[]):=by obtain⟨_,_,rfl,h0,h⟩:=rl h;obtain⟨_,_,rfl,h1,h⟩:=rl h;obtain⟨_,_,rfl,h2,h⟩:=rl h;obtain rfl:=Cl h;obtain⟨m,rfl,hm⟩:=Hr h0;obtain⟨a,rfl,ha⟩:=vj h1;obtain⟨b,rfl,hb⟩:=vj h2;exact Jm hm ha.1 ha.2 hb.1 hb.2
end Go.Lw