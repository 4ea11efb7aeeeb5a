/-
  The texts that the proof stands on, part 30.
-/
import Derived.Test.YtmodipglnngghadGreatDoorRestModelsZ3
import Derived.KernelRfl
set_option linter.unusedVariables false
set_option linter.unusedSimpArgs false
set_option linter.unnecessarySimpa false

set_option maxRecDepth 100000
set_option maxHeartbeats 4000000
namespace Go.Lw
open Go
section
attribute [local congr] bu
attribute [local simp] au
structure Ci where
 ins:Int
 ands:fN
 inp:Int
 st:Int
 inits:fq
 nexts:fq
 bads:fq
 holds:fq
abbrev ciV (c:Ci):PV:= .agg [I c.ins,.sl false 2 (c.ands.map andV),I c.inp,I c.st,LI c.inits,LI c.nexts,LI c.bads,LI c.holds]
section
variable {gh:fB}
end
end
section
attribute [local congr] bu
attribute [local simp] au
section
variable {pre:fB} {nI nS:Int} {G GM:fB} {LV a1 a2 a3 a4 BS ST V:fw} {m0 m1 m2 m3 m4:PV} {bd hd:fw}
theorem KF {g14 g15 l j a:Nat} {ini nx:fq} {c:fq} {s f:Int} {L:List Nd} {x:Nd} {o:Bool} (E:j<l) (M:l<=1000) (r:ST[j]?=some (I s)) (B:0<=s) (A:L[s.toNat]?=some x) (hw:x.w=(a:Int)) (g:a<=8)
  (p:GM[pre.length+2]?=some (.cells [fc (pre.length+1) 0,LN L,m1,m2,m3,m4,.sl o 1 BS])) (C:LkO GM g15 s (some (I f))) (D:LkO GM g14 s none)
  (i:0<=f) (t:BS[f.toNat]?=some (LI c)) (hn:nx.length+c.length<=1000) (F:ini.length<=1000) :
  evK pg q37 fiK ⟨[(1,(ec)),(2,(eK)),(5,(fc (pre.length+2) 0)),(13,(eU)),(14,(.mp g14)),(15,(.mp g15)),(138,(dz ST)),(139,(.int .i64 l)),(140,(.int .i64 j))],[[(LN L),m1,m2,m3,m4],[(.int .i64 0),(.sl true 2 []),(.int .i64 0),(.int .i64 0),(dz []),(dz []),(dz []),(dz [])],[(.int .i64 0),(.sl true 2 []),(.int .i64 nI),(.int .i64 nS),(dz (ini.map I)),(dz (nx.map I)),(dz bd),(dz hd)]],GM⟩=
   fg ⟨sE pre g14 g15 ST l ((j+1:Nat):Int),[[LN L,m1,m2,m3,m4],C0,C1 nI nS ((ini++List.replicate a (-1)).map I) ((nx++c).map I) bd hd],GM⟩:=by
 have n:(j:Int)<(l:Int):=aj;obtain⟨O,v,u⟩:=C;obtain⟨P,z,y⟩:=D;have m:(nx.length+c.length)*8<=maxBytes:=by have:=MB;omega
 have e:=KE (pre:=pre) (m1:=m1) (m2:=m2) (m3:=m3) (m4:=m4) (nI:=nI) (nS:=nS) (G:=GM) (g14:=g14) (g15:=g15) (l:=l) (j:=j) (ST:=ST) (nx:=(nx++c).map I) (bd:=bd) (hd:=hd) (L:=L) (s:=s) (q:=0) (b:=false) (acc:=ini) B A hw g F;have d:=A0 (pre:=pre) (m0:=LN L) (m1:=m1) (m2:=m2) (m3:=m3) (m4:=m4) (nI:=nI) (nS:=nS) (G:=GM) (g14:=g14) (g15:=g15) (l:=l) (j:=j) (ST:=ST) (ini:=(ini++List.replicate a (-1)).map I) (nx:=(nx++c).map I) (bd:=bd) (hd:=hd) aj;have H:(nx++c).map I=nx.map I++c.map I:=bh;have k:(nx.map I).length=nx.length:=bh;have h:(c.map I).length=c.length:=bh;unfold LI at t
 unfold C0 C1 sE at *;rw[H] at e d ⊢;generalize (ini++List.replicate a (-1)).map I=R,ini.map I=S,nx.map I=Q,c.map I=N at *;unfold LN at *;generalize L.map nodeV=LV at *;simp[q37,n];simp[r,p,eS,v,u,z,y,i,t,k,h,m,e,d,show Nat.ble 1 3=true from rfl,show Nat.ble 2 3=true from rfl,show Nat.ble 3 3=true from rfl]
theorem KG {g14 g15 l j d N:Nat} {ini nx:fq} {e H:fq} {i m:fw} {s q p:Int} {L:List Nd} {x:Nd} {o:Bool} (aa:j<l) (hl:l<=1000) (F:ST[j]?=some (I s)) (U:0<=s) (T:L[s.toNat]?=some x) (hw:x.w=(d:Int)) (r:d<=8)
  (D:GM[pre.length+2]?=some (.cells [fc (pre.length+1) 0,LN L,.sl false 2 a1,.sl false 2 a2,cr a3,cr a4,.sl o 1 BS])) (X:LkO GM g15 s (some (I q))) (hp:LkO GM g14 s (some (I p)))
  (v:0<=q) (O:BS[q.toNat]?=some (LI e)) (hn:nx.length+e.length<=1000) (hi:ini.length<=1000)
  (h3:ac pg 101 [.agg [LN L,.sl false 2 a1,.sl false 2 a2,cr a3,cr a4],I 3] GM=some (dz i,GM)) (h2:ac pg 101 [.agg [LN L,.sl false 2 a1,.sl false 2 a2,cr a3,cr a4],I 2] GM=some (dz m,GM)) (ab:i.length<=1000) (ad:m.length<=1000)
  (M:ac pg 139 [.agg [LN L,.sl false 2 a1,.sl false 2 a2,cr a3,cr a4],cr (List.replicate i.length (I 0)),cr (List.replicate m.length (I 0))] GM=some (LI H,GM)) (u:0<=p) (E:(H.map I)[p.toNat]?=some (I (N:Int))) (hN:N<256) :
  evK pg q37 fiK ⟨[(1,(ec)),(2,(eK)),(5,(fc (pre.length+2) 0)),(13,(eU)),(14,(.mp g14)),(15,(.mp g15)),(138,(dz ST)),(139,(.int .i64 l)),(140,(.int .i64 j))],[[(LN L),(.sl false 2 a1),(.sl false 2 a2),(cr a3),(cr a4)],[(.int .i64 0),(.sl true 2 []),(.int .i64 0),(.int .i64 0),(dz []),(dz []),(dz []),(dz [])],[(.int .i64 0),(.sl true 2 []),(.int .i64 nI),(.int .i64 nS),(dz (ini.map I)),(dz (nx.map I)),(dz bd),(dz hd)]],GM⟩=
   fg ⟨sE pre g14 g15 ST l ((j+1:Nat):Int),[[LN L,.sl false 2 a1,.sl false 2 a2,cr a3,cr a4],C0,C1 nI nS ((ini++cI N 0 d).map I) ((nx++e).map I) bd hd],GM⟩:=by
 have C:(j:Int)<(l:Int):=aj;obtain⟨Q1,Q,P⟩:=X;obtain⟨P1,S,R⟩:=hp;have z:(nx.length+e.length)*8<=maxBytes:=by have:=MB;omega
 have f:=AY (pre:=pre) (m0:=LN L) (m1:= .sl false 2 a1) (m2:= .sl false 2 a2) (m3:= cr a3) (m4:= cr a4) (nI:=nI) (nS:=nS) (G:=GM) (g14:=g14) (g15:=g15) (l:=l) (j:=j) (ST:=ST) (nx:=(nx++e).map I) (bd:=bd) (hd:=hd) hN r d 0 ini aj aj;simp only[aR] at f;have h:=A0 (pre:=pre) (m0:=LN L) (m1:= .sl false 2 a1) (m2:= .sl false 2 a2) (m3:= cr a3) (m4:= cr a4) (nI:=nI) (nS:=nS) (G:=GM) (g14:=g14) (g15:=g15) (l:=l) (j:=j) (ST:=ST) (ini:=(ini++cI N 0 d).map I) (nx:=(nx++e).map I) (bd:=bd) (hd:=hd) aj;have e1:(nx++e).map I=nx.map I++e.map I:=bh;have y:(nx.map I).length=nx.length:=bh
 have t:(e.map I).length=e.length:=bh;have g:(L.map nodeV)[s.toNat]?=some (.agg [I x.k,I x.w,I x.a,I x.b,I x.c,I x.n]):=by rw[aB,T];rfl
 rw[hw] at g;have A:=rC (n:=i.length) aj;have B:=rC (n:=m.length) aj;unfold LI at O M;unfold C0 C1 sE at *;rw[e1] at f h ⊢;generalize (ini++cI N 0 d).map I=I2,ini.map I=I1,nx.map I=N1,e.map I=V1,H.map I=VI at *;unfold LN at *;generalize L.map nodeV=LV at *;simp[q37,C];simp[F,D,eS,Q,P,S,R,v,O,y,t,z,h3,h2,A,B,M,u,E,U,g,f,h,co,show Nat.ble 1 3=true from rfl,show Nat.ble 2 3=true from rfl,show Nat.ble 3 3=true from rfl]
theorem KH {l j:Nat} {ini nx bd':fw} {hd:fw} {f:fw} {a g:Int} {h:fw} {o:Bool} (i:j<l) (q:l<=1000) (m:f[j]?=some (I a)) (ha:0<=a) (e:GM[pre.length+2]?=some (.cells [fc (pre.length+1) 0,m0,m1,m2,m3,m4,.sl o 1 BS])) (n:BS[a.toNat]?=some (cr h)) (k:h[0]?=some (I g)) (d:bd'.length=j) :
  evK pg q4v fiK ⟨[(1,(ec)),(2,(eK)),(5,(fc (pre.length+2) 0)),(13,(eU)),(212,(cr f)),(213,(.int .i64 l)),(214,(.int .i64 j))],[[m0,m1,m2,m3,m4],[(.int .i64 0),(.sl true 2 []),(.int .i64 0),(.int .i64 0),(dz []),(dz []),(dz []),(dz [])],[(.int .i64 0),(.sl true 2 []),(.int .i64 nI),(.int .i64 nS),(dz ini),(dz nx),(dz bd'),(dz hd)]],GM⟩=
   fg ⟨[(1,ec),(2,eK),(5,fc (pre.length+2) 0),(13,eU),(212,cr f),(213,I l),(214,I ((j+1:Nat):Int))],[[m0,m1,m2,m3,m4],C0,C1 nI nS ini nx (bd'++[I g]) hd],GM⟩:=by
 have c:(j:Int)<(l:Int):=aj;have p:=wrS' j aj;have b:(j+1)*8<=maxBytes:=by have:=MB;omega
 unfold C0 C1;simp[q4v,c];simp[m,ha,e,n,k,d,b,p]
theorem KI {l j:Nat} {ini nx bd hd':fw} {f:fw} {a g:Int} {h:fw} {o:Bool} (i:j<l) (q:l<=1000) (m:f[j]?=some (I a)) (ha:0<=a) (e:GM[pre.length+2]?=some (.cells [fc (pre.length+1) 0,m0,m1,m2,m3,m4,.sl o 1 BS])) (n:BS[a.toNat]?=some (cr h)) (k:h[0]?=some (I g)) (d:hd'.length=j) :
  evK pg q4w fiK ⟨[(2,(eK)),(5,(fc (pre.length+2) 0)),(13,(eU)),(234,(cr f)),(235,(.int .i64 l)),(236,(.int .i64 j))],[[m0,m1,m2,m3,m4],[(.int .i64 0),(.sl true 2 []),(.int .i64 0),(.int .i64 0),(dz []),(dz []),(dz []),(dz [])],[(.int .i64 0),(.sl true 2 []),(.int .i64 nI),(.int .i64 nS),(dz ini),(dz nx),(dz bd),(dz hd')]],GM⟩=
   fg ⟨[(2,eK),(5,fc (pre.length+2) 0),(13,eU),(234,cr f),(235,I l),(236,I ((j+1:Nat):Int))],[[m0,m1,m2,m3,m4],C0,C1 nI nS ini nx bd (hd'++[I g])],GM⟩:=by
 have c:(j:Int)<(l:Int):=aj;have p:=wrS' j aj;have b:(j+1)*8<=maxBytes:=by have:=MB;omega
 unfold C0 C1;simp[q4w,c];simp[m,ha,e,n,k,d,b,p]
def dy (b:ft) (l:fq):fq:=l.map λa=>(b.getD a.toNat []).getD 0 0
theorem rT {b:ft} {a:Int} (h:0<=a/\a.toNat<b.length):(b.map λl=>LI l)[a.toNat]?=some (cr ((b.getD a.toNat []).map I)):=by rw[aB,aK,aA h.2];rfl
theorem A7 {l:fq} (h:l≠[]):(l.map I)[0]?=some (I (l.getD 0 0)):=by
 cases l with
 |nil=>exact absurd rfl h
 |cons x l=>rfl
theorem A8 {b:ft} {o:Bool} {ini nx hd:fw} {mk:fq} (m:mk.length<=1000) (c:GM[pre.length+2]?=some (.cells [fc (pre.length+1) 0,m0,m1,m2,m3,m4,.sl o 1 (b.map λl=>LI l)]))
  (i:∀a∈mk,(0<=a/\a.toNat<b.length)/\b.getD a.toNat []≠[]):∀k j,j+k=mk.length->
  bm pg qda ⟨[(1,ec),(2,eK),(5,fc (pre.length+2) 0),(13,eU),(212,LI mk),(213,I mk.length),(214,I (j:Int))],[[m0,m1,m2,m3,m4],C0,C1 nI nS ini nx ((dy b (mk.take j)).map I) hd],GM⟩=
   fg ⟨[(1,ec),(2,eK),(5,fc (pre.length+2) 0),(13,eU)],[[m0,m1,m2,m3,m4],C0,C1 nI nS ini nx ((dy b mk).map I) hd],GM⟩
 |0,j,h=>by
  rw[bK aj];have e:¬(j:Int)<(mk.length:Int):=aj;unfold C0 C1;refine (bn (s1:=?J) (bg ?Z)).trans ?Y
  case Z=>simp[q4v,e];rfl
  case Y=>simp[keep,bj]
 | k+1,j,h=>by
  have d:j<mk.length:=aj;obtain⟨n,q⟩:=i _ (cD d);have p:(mk.map I)[j]?=some (I mk[j]):=by rw[aB,aA d];rfl
  have f:=KH (nI:=nI) (nS:=nS) (ini:=ini) (nx:=nx) (hd:=hd) (bd':=(dy b (mk.take j)).map I) d m p n.1 c (rT n) (A7 q) (by simp[dy];omega);have r:(dy b (mk.take j)).map I++[I ((b.getD mk[j].toNat []).getD 0 0)]=(dy b (mk.take (j+1))).map I:=by unfold dy;rw[List.take_succ_eq_append_getElem d,bI,bI];rfl
  rw[r] at f;have g:=A8 (ini:=ini) (nx:=nx) (hd:=hd) m c i k (j+1) aj;unfold C0 C1 at f g ⊢;exact (ay (bg f) g)
theorem A9 {b:ft} {o:Bool} {ini nx bd:fw} {mk:fq} (m:mk.length<=1000) (c:GM[pre.length+2]?=some (.cells [fc (pre.length+1) 0,m0,m1,m2,m3,m4,.sl o 1 (b.map λl=>LI l)]))
  (i:∀a∈mk,(0<=a/\a.toNat<b.length)/\b.getD a.toNat []≠[]):∀k j,j+k=mk.length->
  bm pg qdb ⟨[(2,eK),(5,fc (pre.length+2) 0),(13,eU),(234,LI mk),(235,I mk.length),(236,I (j:Int))],[[m0,m1,m2,m3,m4],C0,C1 nI nS ini nx bd ((dy b (mk.take j)).map I)],GM⟩=
   fg ⟨[(2,eK),(5,fc (pre.length+2) 0),(13,eU)],[[m0,m1,m2,m3,m4],C0,C1 nI nS ini nx bd ((dy b mk).map I)],GM⟩
 |0,j,h=>by
  rw[bK aj];have e:¬(j:Int)<(mk.length:Int):=aj;unfold C0 C1;refine (bn (s1:=?J) (bg ?Z)).trans ?Y
  case Z=>simp[q4w,e];rfl
  case Y=>simp[keep,bj]
 | k+1,j,h=>by
  have d:j<mk.length:=aj;obtain⟨n,q⟩:=i _ (cD d);have p:(mk.map I)[j]?=some (I mk[j]):=by rw[aB,aA d];rfl
  have f:=KI (nI:=nI) (nS:=nS) (ini:=ini) (nx:=nx) (bd:=bd) (hd':=(dy b (mk.take j)).map I) d m p n.1 c (rT n) (A7 q) (by simp[dy];omega);have r:(dy b (mk.take j)).map I++[I ((b.getD mk[j].toNat []).getD 0 0)]=(dy b (mk.take (j+1))).map I:=by unfold dy;rw[List.take_succ_eq_append_getElem d,bI,bI];rfl
  rw[r] at f;have g:=A9 (ini:=ini) (nx:=nx) (bd:=bd) m c i k (j+1) aj;unfold C0 C1 at f g ⊢;exact (ay (bg f) g)
end
end
section
attribute [local congr] bu
attribute [local simp] au
def gY (a:ft) (Q:fN) (st:fq):fq:=st.flatMap λs=>a.getD (dM Q s).toNat []
def gZ (L:List Nd) (P:fN) (a:fq) (st:fq):fq:=st.flatMap λs=>if jV P s then cI (a.getD (dM P s).toNat 0).toNat 0 (wAt L s).toNat else List.replicate (wAt L s).toNat (-1)
theorem ve (N:Nat):∀m i,(cI N i m).length=m
 |0,_=>rfl
 |m+1,i=>by rw[cI,aV,ve N m]
structure Ba (L:List Nd) (P Q:fN) (V:fq) (bits:ft) (s:Int):Prop where
 s0:0<=s
 s1:s.toNat<L.length
 w:1<=wAt L s/\wAt L s<=8
 hq:jV Q s=true
 q0:0<=dM Q s
 q1:(dM Q s).toNat<bits.length
 ql:(bits.getD (dM Q s).toNat []).length<=8
 p0:jV P s=true->0<=dM P s/\(dM P s).toNat<V.length/\0<=V.getD (dM P s).toNat 0/\V.getD (dM P s).toNat 0<256
section
variable {pre:fB} {nI nS:Int} {G:fB} {a1 a2 a3 a4 S3 S2:fw} {bits:ft} {o:Bool} {L:List Nd} {P Q:fN} {V:fq} {st:fq}
theorem vg (M:st.length<=80) (c:(G++[.map (b8 P),.map (b8 Q)])[pre.length+2]?=some (.cells [fc (pre.length+1) 0,LN L,.sl false 2 a1,.sl false 2 a2,cr a3,cr a4,.sl o 1 (bits.map λl=>LI l)]))
  (C:ac pg 101 [.agg [LN L,.sl false 2 a1,.sl false 2 a2,cr a3,cr a4],I 3] (G++[.map (b8 P),.map (b8 Q)])=some (dz S3,(G++[.map (b8 P),.map (b8 Q)]))) (D:ac pg 101 [.agg [LN L,.sl false 2 a1,.sl false 2 a2,cr a3,cr a4],I 2] (G++[.map (b8 P),.map (b8 Q)])=some (dz S2,(G++[.map (b8 P),.map (b8 Q)]))) (e:S3.length<=1000) (f:S2.length<=1000)
  (B:ac pg 139 [.agg [LN L,.sl false 2 a1,.sl false 2 a2,cr a3,cr a4],cr (List.replicate S3.length (I 0)),cr (List.replicate S2.length (I 0))] (G++[.map (b8 P),.map (b8 Q)])=some (LI V,(G++[.map (b8 P),.map (b8 Q)])))
  (u:∀s∈st,Ba L P Q V bits s):∀(k j:Nat) (ini nx:fq),j+k=st.length->ini.length<=8*j->nx.length<=8*j->
  bm pg qd9 ⟨sE pre G.length (G.length+1) (st.map I) st.length (j:Int),[[LN L,.sl false 2 a1,.sl false 2 a2,cr a3,cr a4],C0,C1 nI nS (ini.map I) (nx.map I) [] []],(G++[.map (b8 P),.map (b8 Q)])⟩=
   fg ⟨[(1,ec),(2,eK),(5,fc (pre.length+2) 0),(13,eU)],[[LN L,.sl false 2 a1,.sl false 2 a2,cr a3,cr a4],C0,C1 nI nS ((ini++gZ L P V (st.drop j)).map I) ((nx++gY bits Q (st.drop j)).map I) [] []],(G++[.map (b8 P),.map (b8 Q)])⟩
 |0,j,ini,nx,h,_,_=>by
  have y:st.drop j=[]:=aM aj;rw[y];have v:¬(j:Int)<(st.length:Int):=aj;unfold gZ gY C0 C1 sE;rw[List.flatMap_nil,List.flatMap_nil,bE,bE];refine (bn (s1:=?J) (bg ?Z)).trans ?Y
  case Z=>simp[q37,v];rfl
  case Y=>simp[keep,bj]
 | k+1,j,ini,nx,h,h1,h4=>by
  have p:j<st.length:=aj;have b:=u _ (cD p);have t:(st.map I)[j]?=some (I st[j]):=by rw[aB,aA p];rfl
  rw[aJ p];generalize st[j]=s at *;obtain⟨x,H,S⟩:∃x,L[s.toNat]?=some x/\wAt L s=x.w:=by refine⟨L[s.toNat]'(b.s1),aA b.s1,?_⟩;unfold wAt;rw[aK,aA b.s1];rfl
  obtain⟨a,N⟩:∃a:Nat,x.w=a:=⟨x.w.toNat,by have:=b.w;omega⟩
  have i:a<=8:=by have:=b.w;omega
  have r:(wAt L s).toNat=a:=aj;have T:=b.ql;have n:LkO (G++[.map (b8 P),.map (b8 Q)]) (G.length+1) s (some (I (dM Q s))):=by have:=KC G P Q s;rw[rS,b.hq] at this;exact this
  cases m:jV P s with
  | false=>
   have d:LkO (G++[.map (b8 P),.map (b8 Q)]) G.length s none:=by have:=AT G P Q s;rw[rS,m] at this;exact this
   have q:=KF (nI:=nI) (nS:=nS) (bd:=[]) (hd:=[]) (ini:=ini) (nx:=nx) p aj t b.s0 H N i c n d b.q0 (rT ⟨b.q0,b.q1⟩) aj aj;have g:=vg M c C D e f B u k (j+1) (ini++List.replicate a (-1)) (nx++bits.getD (dM Q s).toNat []) aj (by simp;omega) (by rw[aQ];omega);have F:ini++gZ L P V (s::st.drop (j+1))=(ini++List.replicate a (-1))++gZ L P V (st.drop (j+1)):=by unfold gZ;rw[cU,m,r,aT];rfl
   have E:nx++gY bits Q (s::st.drop (j+1))=(nx++bits.getD (dM Q s).toNat [])++gY bits Q (st.drop (j+1)):=by unfold gY;rw[cU,aT]
   rw[F,E];unfold C0 C1 sE at q g ⊢;exact ay (bg q) g
  | true=>
   obtain⟨R,O,X,U⟩:=b.p0 m;have d:LkO (G++[.map (b8 P),.map (b8 Q)]) G.length s (some (I (dM P s))):=by have:=AT G P Q s;rw[rS,m] at this;exact this
   have A:(V.map I)[(dM P s).toNat]?=some (I (((V.getD (dM P s).toNat 0).toNat:Nat):Int)):=by rw[Kq O];congr 2;omega
   have q:=KG (nI:=nI) (nS:=nS) (bd:=[]) (hd:=[]) (ini:=ini) (nx:=nx) p aj t b.s0 H N i c n d b.q0 (rT ⟨b.q0,b.q1⟩) aj aj C D e f B R A aj;have z:(cI (V.getD (dM P s).toNat 0).toNat 0 a).length=a:=ve _ _ _;have g:=vg M c C D e f B u k (j+1) (ini++cI (V.getD (dM P s).toNat 0).toNat 0 a) (nx++bits.getD (dM Q s).toNat []) aj (by rw[aQ,z];omega) (by rw[aQ];omega);have F:ini++gZ L P V (s::st.drop (j+1))=(ini++cI (V.getD (dM P s).toNat 0).toNat 0 a)++gZ L P V (st.drop (j+1)):=by unfold gZ;rw[cU,m,r,aT];rfl
   have E:nx++gY bits Q (s::st.drop (j+1))=(nx++bits.getD (dM Q s).toNat [])++gY bits Q (st.drop (j+1)):=by unfold gY;rw[cU,aT]
   rw[F,E];unfold C0 C1 sE at q g ⊢;exact ay (bg q) g
variable {A:fN} {ins:Int} {GM:fB} {m0 m1 m2 m3 m4 bv:PV} {i1 n1 b1 d1:fw}
theorem KJ (a:GM[pre.length+2]?=some (.cells [fc (pre.length+1) 0,m0,m1,m2,m3,m4,bv])) (b:GM[pre.length+1]?=some (.cells [I ins,.sl true 2 (A.map andV),.mp pre.length])) :
  bm pg q8k ⟨[(2,eK),(5,fc (pre.length+2) 0),(13,eU)],[[m0,m1,m2,m3,m4],C0,C1 nI nS i1 n1 b1 d1],GM⟩=
   fo ⟨[(2,eK)],[[m0,m1,m2,m3,m4],[I ins,.fr 2 (A.map andV),I nI,I nS,.fr 1 i1,.fr 1 n1,.fr 1 b1,.fr 1 d1]],GM⟩:=by
 refine bg ?_;generalize A.map andV=c at *;simp[q8k,C0,C1,a,b]
theorem KK {b:fq} (c:b.length<=1000) (i:∀a∈b,(0<=a/\a.toNat<bits.length)/\bits.getD a.toNat []≠[])
  (d:GM[pre.length+2]?=some (.cells [fc (pre.length+1) 0,m0,m1,m2,m3,LI b,.sl o 1 (bits.map λl=>LI l)])) (f:GM[pre.length+1]?=some (.cells [I ins,.sl true 2 (A.map andV),.mp pre.length])) :
  bm pg q8l ⟨[(1,ec),(2,eK),(5,fc (pre.length+2) 0),(13,eU)],[[m0,m1,m2,m3,LI b],C0,C1 nI nS i1 n1 b1 []],GM⟩=
   fo ⟨[(2,eK)],[[m0,m1,m2,m3,LI b],[I ins,.fr 2 (A.map andV),I nI,I nS,.fr 1 i1,.fr 1 n1,.fr 1 b1,FI1 (dy bits b)]],GM⟩:=by
 have h:=A9 (nI:=nI) (nS:=nS) (ini:=i1) (nx:=n1) (bd:=b1) c d i b.length 0 aj;simp only[List.take_zero,aR,show (dy bits []).map I=[] from rfl] at h;have g:=KJ (nI:=nI) (nS:=nS) (i1:=i1) (n1:=n1) (b1:=b1) (d1:=(dy bits b).map I) d f;have e:(b.map I).length=b.length:=bh;unfold C0 C1 at *;refine bg ?_;unfold FI1;unfold LI at *;generalize (dy bits b).map I=F,b.map I=H at *;simp[q8l,e,h,g]
theorem Sk {bl hl:fq} (f:bl.length<=1000) (d:∀a∈bl,(0<=a/\a.toNat<bits.length)/\bits.getD a.toNat []≠[]) (b:hl.length<=1000) (i:∀a∈hl,(0<=a/\a.toNat<bits.length)/\bits.getD a.toNat []≠[])
  (c:GM[pre.length+2]?=some (.cells [fc (pre.length+1) 0,m0,m1,m2,LI bl,LI hl,.sl o 1 (bits.map λl=>LI l)])) (g:GM[pre.length+1]?=some (.cells [I ins,.sl true 2 (A.map andV),.mp pre.length])) :
  bm pg q8m ⟨[(1,ec),(2,eK),(5,fc (pre.length+2) 0),(13,eU)],[[m0,m1,m2,LI bl,LI hl],C0,C1 nI nS i1 n1 [] []],GM⟩=
   fo ⟨[(2,eK)],[[m0,m1,m2,LI bl,LI hl],[I ins,.fr 2 (A.map andV),I nI,I nS,.fr 1 i1,.fr 1 n1,FI1 (dy bits bl),FI1 (dy bits hl)]],GM⟩:=by
 have h:=A8 (nI:=nI) (nS:=nS) (ini:=i1) (nx:=n1) (hd:=[]) f c d bl.length 0 aj;simp only[List.take_zero,aR,show (dy bits []).map I=[] from rfl] at h;have j:=KK (nI:=nI) (nS:=nS) (i1:=i1) (n1:=n1) (b1:=(dy bits bl).map I) b i c g;have e:(bl.map I).length=bl.length:=bh;unfold C0 C1 at *;refine bg ?_;unfold FI1;unfold LI at *;generalize (dy bits bl).map I=F,bl.map I=H at *;simp[q8m,e,h,j,bj]
end
end
section
attribute [local congr] bu
attribute [local simp] au
section
variable {pre:fB} {nI nS ins:Int} {G:fB} {A:fN} {bits:ft} {o:Bool} {m:Md}
def jX (m:Md):fw:=[LN m.nodes,LP m.inits,LP m.nexts,LI m.bads,LI m.holds]
structure pj (m:Md) (bits:ft):Prop where
 chk:dc m=0
 bl:bits.length=m.nodes.length
 st:∀s∈ci m.nodes 3,Ba m.nodes m.inits m.nexts (jr m) bits s
 mks:∀a∈m.bads++m.holds,(0<=a/\a.toNat<bits.length)/\bits.getD a.toNat []≠[]
def ll (b:Int) (A:fN) (d c:Int) (m:Md) (a:ft):Ci:=
 ⟨b,A,d,c,gZ m.nodes m.inits (jr m) (ci m.nodes 3),gY a m.nexts (ci m.nodes 3),dy a m.bads,dy a m.holds⟩
def md (c:Ci):fw:=[I c.ins,.fr 2 (c.ands.map andV),I c.inp,I c.st,FI1 c.inits,FI1 c.nexts,FI1 c.bads,FI1 c.holds]
abbrev ciF (c:Ci):PV:= .agg (md c)
theorem KM (i:lW m) (hr:pj m bits) (c:G[pre.length+2]?=some (.cells [fc (pre.length+1) 0,LN m.nodes,LP m.inits,LP m.nexts,LI m.bads,LI m.holds,.sl o 1 (bits.map λl=>LI l)])) (j:G[pre.length+1]?=some (.cells [I ins,.sl true 2 (A.map andV),.mp pre.length])) :
  bm pg q8n ⟨[(1,ec),(2,eK),(5,fc (pre.length+2) 0),(13,eU),(14,.mp G.length),(15,.mp (G.length+1))],[jX m,C0,C1 nI nS [] [] [] []],G++[.map (b8 m.inits),.map (b8 m.nexts)]⟩=
   fo ⟨[(2,eK)],[jX m,md (ll ins A nI nS m bits)],G++[.map (b8 m.inits),.map (b8 m.nexts)]⟩:=by
 have hl:=i.len;have h:=pi i 3;have u:=pi i 2;have t:=AN hr.chk;have b:pre.length+2<G.length:=(aD.1 c).1;have d:(G++[.map (b8 m.inits),.map (b8 m.nexts)])[pre.length+2]?=some (.cells [fc (pre.length+1) 0,LN m.nodes,LP m.inits,LP m.nexts,LI m.bads,LI m.holds,.sl o 1 (bits.map λl=>LI l)]):=by rw[aI b];exact c
 have n:(G++[.map (b8 m.inits),.map (b8 m.nexts)])[pre.length+1]?=some (.cells [I ins,.sl true 2 (A.map andV),.mp pre.length]):=by rw[aI aj];exact j
 have f:=ng (m:=m) (kind:=3) (gh:=G++[.map (b8 m.inits),.map (b8 m.nexts)]) aj;have k:=ng (m:=m) (kind:=2) (gh:=G++[.map (b8 m.inits),.map (b8 m.nexts)]) aj;have e:=Ko (m:=m) (ss:=nt m) (ks:=nu m) (gh:=G++[.map (b8 m.inits),.map (b8 m.nexts)]) hr.chk AK;rw[en] at f k e;have v:LI (nt m)= cr (List.replicate ((ci m.nodes 3).map I).length (I 0)):=by unfold LI nt;simp
 have w:LI (nu m)= cr (List.replicate ((ci m.nodes 2).map I).length (I 0)):=by unfold LI nu;simp
 rw[v,w] at e;change _=some (LI (jr m),_) at e;have q:=vg (nI:=nI) (nS:=nS) (bits:=bits) (o:=o) h d f k (by simp;omega) (by simp;omega) e hr.st (ci m.nodes 3).length 0 [] [] aj bh bh;have p:=Sk (nI:=nI) (nS:=nS) (i1:=(gZ m.nodes m.inits (jr m) (ci m.nodes 3)).map I) (n1:=(gY bits m.nexts (ci m.nodes 3)).map I) (bl:=m.bads) (hl:=m.holds) aj (λa ha=>hr.mks a (aX _ ha)) aj (λa ha=>hr.mks a (aY _ ha)) d n;simp only[bJ,bF,bU,aR] at q;have g:((ci m.nodes 3).map I).length=(ci m.nodes 3).length:=bh;unfold jX md ll at *;unfold C0 C1 sE at *;simp only;refine bg ?_
 generalize G++[.map (b8 m.inits),.map (b8 m.nexts)]=D,(gZ m.nodes m.inits (jr m) (ci m.nodes 3))=s,(gY bits m.nexts (ci m.nodes 3))=r at *;unfold FI1 at p ⊢;unfold LO at f k;unfold LI LN LP at *;generalize s.map I=s,r.map I=r,(ci m.nodes 3).map I=z,(dy bits m.bads).map I=F,(dy bits m.holds).map I=E,m.nodes.map nodeV=y,m.inits.map andV=B,m.nexts.map andV=x,m.bads.map I=H,m.holds.map I=C at *
 simp[q8n,f,g,q,p]
theorem KN (b:lW m) (hr:pj m bits) (c:G[pre.length+2]?=some (.cells [fc (pre.length+1) 0,LN m.nodes,LP m.inits,LP m.nexts,LI m.bads,LI m.holds,.sl o 1 (bits.map λl=>LI l)])) (d:G[pre.length+1]?=some (.cells [I ins,.sl true 2 (A.map andV),.mp pre.length])) :
  bm pg q8o ⟨[(1,ec),(2,eK),(5,fc (pre.length+2) 0),(13,eU),(14,.mp G.length),(15,.mp (G.length+1))],[jX m,C0,C1 nI nS [] [] [] []],G++[.map (b8 m.inits),.map (b8 [])]⟩=
   fo ⟨[(2,eK)],[jX m,md (ll ins A nI nS m bits)],G++[.map (b8 m.inits),.map (b8 m.nexts)]⟩:=by
 have g:=KM (nI:=nI) (nS:=nS) b hr c d;have f:=AI b;have e:=AX (pre:=pre) (m0:=LN m.nodes) (m1:=LP m.inits) (m2:=LP m.nexts) (m3:=LI m.bads) (m4:=LI m.holds) (nI:=nI) (nS:=nS) (G:=G) (ps:=m.nexts) (P1:=m.inits) aj b.nod2 m.nexts.length 0 aj;rw[List.take_zero] at e;simp only[aR] at e;have a:(m.nexts.map andV).length=m.nexts.length:=bh;unfold jX at *;generalize md (ll ins A nI nS m bits)=q at *;unfold C0 C1 at *;refine bg ?_;generalize G++[.map (b8 m.inits),.map (b8 m.nexts)]=p,G++[.map (b8 m.inits),.map (b8 [])]=h at *;unfold LI LN LP at *
 generalize m.nodes.map nodeV=j,m.inits.map andV=k,m.nexts.map andV=i,m.bads.map I=r,m.holds.map I=n at *;simp[q8o,a,e,g]
theorem KO (c:lW m) (hr:pj m bits) (d:G[pre.length+2]?=some (.cells [fc (pre.length+1) 0,LN m.nodes,LP m.inits,LP m.nexts,LI m.bads,LI m.holds,.sl o 1 (bits.map λl=>LI l)])) (e:G[pre.length+1]?=some (.cells [I ins,.sl true 2 (A.map andV),.mp pre.length])) :
  bm pg q8p ⟨[(1,ec),(2,eK),(3,I nI),(4,I nS),(5,fc (pre.length+2) 0)],[jX m,C0],G⟩=
   fo ⟨[(2,eK)],[jX m,md (ll ins A nI nS m bits)],G++[.map (b8 m.inits),.map (b8 m.nexts)]⟩:=by
 have g:=KN (nI:=nI) (nS:=nS) c hr d e;have f:=AI c;have a:=AW (pre:=pre) (m0:=LN m.nodes) (m1:=LP m.inits) (m2:=LP m.nexts) (m3:=LI m.bads) (m4:=LI m.holds) (nI:=nI) (nS:=nS) (G:=G) (ps:=m.inits) (P2:=[]) aj c.nod1 m.inits.length 0 aj;rw[List.take_zero] at a;simp only[aR] at a;have b:(m.inits.map andV).length=m.inits.length:=bh;unfold jX at *;generalize md (ll ins A nI nS m bits)=q at *;unfold C0 C1 at *;refine bg ?_;generalize G++[.map (b8 m.inits),.map (b8 m.nexts)]=p,G++[.map (b8 m.inits),.map (b8 [])]=h at *;rw[show b8 []=[] from rfl] at a
 unfold LI LN LP at *;generalize m.nodes.map nodeV=j,m.inits.map andV=k,m.nexts.map andV=i,m.bads.map I=r,m.holds.map I=n at *;simp[q8p,b,a,g]
end
end
section
variable {m:Md} {ss ks:fq} {ins:Int}
attribute [local congr] bu
attribute [local simp] au
theorem Bb {l:List Nd} {f:fS} {b:Bool}:∀{c:fN},di l f b c=0->∀p∈c,wAt l p.1=wAt l p.2
 |[],_,p,a=>by cases a
 | q::c,h,p,a=>by
  rw[di] at h;split at h
  ·rename_i d
   rcases List.mem_cons.1 a with rfl|a
   ·unfold eW at d
    split at d
    ·contradiction
    split at d
    ·contradiction
    rename_i hn;exact aP hn
   ·exact Bb h p a
  ·contradiction
theorem vh:∀{b:fN} {s:Int},jV b s=true->(s,dM b s)∈b
 | (a,u)::b,s,h=>by
  rw[AG] at h;rw[dM];by_cases e:a=s
  ·rw[if_pos e,<-e];exact aZ ..
  ·rw[aF e,Bool.false_or] at h
   rw[if_neg e];exact bC _ (vh h)
theorem KP (h:dc m=0):di m.nodes (dU [] m.nodes) true m.inits=0/\di m.nodes (dU [] m.nodes) false m.nexts=0:=by
 obtain⟨a,_⟩:=rQ h;unfold iz at a;split at a
 ·contradiction
 rename_i c;split at a
 ·contradiction
 rename_i b;exact⟨aP c,aP b⟩
theorem KQ (h:dc m=0):∀a∈m.bads++m.holds,wAt m.nodes a=1:=by
 obtain⟨-,b⟩:=rQ h;unfold jp at b;split at b
 ·contradiction
 split at b
 ·contradiction
 split at b
 ·contradiction
 rename_i c;intro a ha;exact aP λhn=>c (List.any_eq_true.2 ⟨a,ha,by simp[hn]⟩)
def iR (L:List Nd):fq->Nat
 |[]=>0
 |a::l=>(wAt L a).toNat+iR L l
theorem rU {L:List Nd}:∀{b c:fq},c.length=b.length->(iA L b c).length=iR L b
 |[],[],_=>rfl
 |a::b,x::c,h=>by rw[iA,aQ,lk,iR,rU (by simpa using h)]
theorem Bc {L:List Nd}:∀{ns:fq} {s:Int},(∀a∈ns,1<=wAt L a/\wAt L a<=8)->0<=s->s+8*ns.length<=100000->ns.foldl (λs a=>WI.wrap (s+wAt L a)) s=s+iR L ns
 |[],s,_,_,_=>by simp[iR]
 |a::ns,s,h,e,d=>by have ha:=h a (aZ ..);simp only[aV] at d;rw[List.foldl_cons,aq (n:=s+wAt L a) aj aj,Bc (λb c=>h b (bC _ c)) aj aj,iR];omega
theorem me (h:dc m=0) (b:Int):cw m.nodes b=iR m.nodes (ci m.nodes b):=by
 have c:=rF m.nodes b 0 m.nodes 0 rfl;have d:=pi (kC h) b;have hw:=pd h b
 show (List.filter _ _).foldl lU 0=_
 rw[<-c];have:=Bc (L:=m.nodes) (ns:=ci m.nodes b) (s:=0) (λa ha=>(hw a ha).2) aj aj;unfold ci at this ⊢;rw[this,Int.zero_add]
theorem OM (h:dc m=0):cw m.nodes 2<=6/\cw m.nodes 3<=10:=by
 unfold dc at h;split at h
 ·contradiction
 split at h
 ·contradiction
 split at h
 ·contradiction
 omega
def inB (m:Md) (a b:fq):fS:=iA m.nodes (ci m.nodes 2) b++iA m.nodes (ci m.nodes 3) a
def inN (m:Md):Int:=cw m.nodes 2+cw m.nodes 3
theorem KS (h:dc m=0) (a:jq m.nodes (ci m.nodes 3) ss=0) (b:jq m.nodes (ci m.nodes 2) ks=0):((inB m ss ks).length:Int)=inN m:=by unfold inB inN;rw[aQ,rU (zd b),rU (zd a),me h,me h];omega
theorem vi (h:dc m=0):0<=cw m.nodes 2/\0<=cw m.nodes 3/\0<=inN m/\inN m<=16:=by have c:=me h 2;have b:=me h 3;have a:=OM h;unfold inN;omega
theorem KT (h:0<=ins/\ins<=1000):cq ins []=0:=by unfold cq;rw[if_neg (λq=>q h),if_neg bh,if_pos (by rfl),if_pos bh]
theorem KU (h:dc m=0) {v:fS} {A:fN} {b:ft} {u:List fS} {w:fq} (C:BitsOk ins v A m.nodes b u w) (d:b.length=m.nodes.length):pj m b:=by
 have B:=kC h;obtain⟨E,n⟩:=KP h;have f:∀a:Int,0<=a/\a.toNat<b.length->((b.getD a.toNat []).length:Int)=wAt m.nodes a:=λa ha=>by have D:=C.wd a.toNat ha.2;rw[(C.ls a.toNat ha.2).len,show ((a.toNat:Nat):Int)=a by omega] at D;exact D
 have t:(jr m).length=m.nodes.length:=AF;have r:InW m.nodes (jr m):=ph (λj x F=>rK h F) m.nodes.length 0 [] (nt m) (nu m) aj AK;refine⟨h,d,λs y=>?_,λa ha=>?_⟩
 ·have hw:=pd h 3 s y
  have z:=Ks h s y;have i:=vh z;have c:=(B.pairs _ (aY _ i)).2;have o:=Bb n _ i;have H:=f (dM m.nexts s) ⟨c.1,by rw[d];exact c.2⟩;refine⟨hw.1.1,hw.1.2,hw.2,z,c.1,by rw[d];exact c.2,?_,λI=>?_⟩
  ·have:wAt m.nodes s=wAt m.nodes (dM m.nexts s):=o
   omega
  ·have p:=vh I
   have g:=(B.pairs _ (aX _ p)).2;have l:(dM m.inits s).toNat<(jr m).length:=by rw[t];exact g.2
   have hr:=r _ l;have G:=Ar h (ns:=[dM m.inits s]) (λa ha=>by simp at ha;subst ha;exact g) _ (List.mem_singleton.2 rfl);have k:0<=dM m.inits s:=g.1;rw[show (((dM m.inits s).toNat:Nat):Int)=dM m.inits s by omega] at hr;have q:=fQ (W:=(wAt m.nodes (dM m.inits s)).toNat) aj;exact⟨k,l,hr.1,aj⟩
 ·have hn:=Kt h a ha
  have hw:=KQ h a ha;have hr:0<=a/\a.toNat<b.length:=⟨hn.1,by rw[d];exact hn.2⟩
  refine⟨hr,λe=>?_⟩;have:=f a hr;rw[e,hw] at this;cases this
theorem KW (h:dc m=0) (U:jq m.nodes (ci m.nodes 3) ss=0) (G:jq m.nodes (ci m.nodes 2) ks=0) (pre:fB) :
  ∃A c k,ac pg 217 [e9 m] pre=some (ciF (ll (inN m) A (cw m.nodes 2) (cw m.nodes 3) m c),pre)/\cq (inN m) A=0/\A.length<=400000/\pj m c/\BitsOk (inN m) (inB m ss ks) A m.nodes c k (gX m ss ks):=by
 have hg:=kC h;have hl:=hg.len;have hv:=KS h U G;obtain⟨i2,i3,T,ab⟩:=vi h;have O:=KT (ins:=inN m) ⟨T,aj⟩;obtain⟨nI,w⟩:∃n:Nat,cw m.nodes 2=n:=⟨(cw m.nodes 2).toNat,aj⟩
 have N:(inB m ss ks).drop (1+nI-1)=iA m.nodes (da 3 0 (m.nodes.drop 0)) ss:=by have hb:=rU (L:=m.nodes) (zd G);have al:=me h 2;unfold inB;rw[show 1+nI-1=(iA m.nodes (ci m.nodes 2) ks).length by omega,List.drop_left];rfl
 obtain⟨A,c,k,nx,J,t,S,hB,P⟩:=vd pre hv (nI:=cw m.nodes 2) (nS:=cw m.nodes 3) (L:=m.nodes) (m0:=LN m.nodes) (m1:=LP m.inits) (m2:=LP m.nexts) (m3:=LI m.bads) (m4:=LI m.holds) hl (λj x u=>rK h u) (λj x u=>Aq h u) m.nodes.length 0 ss ks [] [] [] [] 1 (1+nI) [] aj O (by simp;omega) rfl
  ⟨rfl,rfl,λj r=>absurd r bh,λj r=>absurd r bh,λj r=>absurd r bh⟩ (Au U G) aj aj rfl N
 have hr:=KU h hB P;refine⟨A,c,k,?_,S.1,by have:=S.2.1;simp at this;omega,hr,hB⟩;have f:=KO (pre:=pre) (nI:=cw m.nodes 2) (nS:=cw m.nodes 3) (ins:=inN m) (A:=A) (o:=true) hg hr (nw (pre:=pre) (ins:=inN m) (A:=A) (m0:=LN m.nodes) (m1:=LP m.inits) (m2:=LP m.nexts) (m3:=LI m.bads) (m4:=LI m.holds) (bv:= dz (c.map λl=>LI l)) (nx:=nx) (J:=J)) zz;have v:((hH (LN m.nodes) (LP m.inits) (LP m.nexts) (LI m.bads) (LI m.holds) (dz (c.map λl=>LI l)) nx J).g pre (inN m) A++[GObj.map (b8 m.inits),GObj.map (b8 m.nexts)]).take pre.length=pre:=by unfold BC.g;simp
 have e:=zS (m:=m) (gh:=pre) aj;have d:=GR (gh:=pre) (ins:=inN m) (ands:=[]) ⟨T,aj⟩ bh bh;have aa:=OM h;have Q:WI.wrap (cw m.nodes 2+cw m.nodes 3)=inN m:=by unfold inN;exact aq aj aj
 have R:WI.wrap (1+cw m.nodes 2)=((1+nI:Nat):Int):=by rw[w,aq aj aj];omega
 have F:(m.nodes.map nodeV).length=m.nodes.length:=bh;have H:(hH (LN m.nodes) (LP m.inits) (LP m.nexts) (LI m.bads) (LI m.holds) (dz []) [(2,1),(3,((1+nI:Nat):Int))] []).g pre (inN m) []=mkG pre (inN m) [] (byL (inN m) 0 [])++[.cells [fc (pre.length+1) 0,LN m.nodes,LP m.inits,LP m.nexts,LI m.bads,LI m.holds,dz []],.map (b8 [(2,1),(3,((1+nI:Nat):Int))])]:=by unfold BC.g hH mkG;simp
 have i:(mkG pre (inN m) [] (byL (inN m) 0 [])).length=pre.length+2:=by unfold mkG;simp
 unfold BR1 at t;simp only[bU,aR,Int.natCast_one] at t;rw[H] at t;rw[en] at e ⊢;unfold gu at d;simp only[bU] at d;generalize mkG pre (inN m) [] (byL (inN m) 0 [])=X at *;have q:∀(C:GObj) (M:List (PV×PV)),(X++[C,.map M])[pre.length+3]?=some (.map M):=λC M=>by rw[aN aj,i];simp
 have p:∀(C a b:GObj),(X++[C,a]).set (pre.length+3) b=X++[C,b]:=λC a b=>by rw[List.set_append_right _ _ aj,i];simp
 have ad:b8 []=[]/\b8 [(2,1)]=[(I 2,I 1)]:=⟨rfl,rfl⟩
 have E:=yE A;have D:=fZ (gZ m.nodes m.inits (jr m) (ci m.nodes 3));have B:=fZ (gY c m.nexts (ci m.nodes 3));have z:=fZ (dy c m.bads);have y:=fZ (dy c m.holds);unfold md ll jX C0 at *;unfold FI1 at f;unfold LI LN LP at *;simp only at f
 show _=some (PV.agg [I (inN m),.fr 2 (A.map andV),I (cw m.nodes 2),I (cw m.nodes 3),.fr 1 ((gZ m.nodes m.inits (jr m) (ci m.nodes 3)).map I),.fr 1 ((gY c m.nexts (ci m.nodes 3)).map I),.fr 1 ((dy c m.bads).map I),.fr 1 ((dy c m.holds).map I)],pre)
 generalize ((1+nI:Nat):Int)=q3,(hH (.sl false 6 (m.nodes.map nodeV)) (.sl false 2 (m.inits.map andV)) (.sl false 2 (m.nexts.map andV)) (cr (m.bads.map I)) (cr (m.holds.map I)) (dz (c.map λl=> cr (l.map I))) nx J).g pre (inN m) A++[GObj.map (b8 m.inits),GObj.map (b8 m.nexts)]=GE at *;generalize (hH (.sl false 6 (m.nodes.map nodeV)) (.sl false 2 (m.inits.map andV)) (.sl false 2 (m.nexts.map andV)) (cr (m.bads.map I)) (cr (m.holds.map I)) (dz (c.map λl=> cr (l.map I))) nx J).g pre (inN m) A=GD,(gZ m.nodes m.inits (jr m) (ci m.nodes 3)).map I=II at *
 generalize (gY c m.nexts (ci m.nodes 3)).map I=NN,(dy c m.bads).map I=FB,(dy c m.holds).map I=FH,A.map andV=AV,m.nodes.map nodeV=LV,m.inits.map andV=IV,m.nexts.map andV=NV,m.bads.map I=BV,m.holds.map I=HV at *;refine ak (fn:=q4x) (s:=⟨[(2,eK)],[[.sl false 6 LV,.sl false 2 IV,.sl false 2 NV,cr BV,cr HV],[I (inN m),.fr 2 AV,I (cw m.nodes 2),I (cw m.nodes 3),.fr 1 II,.fr 1 NN,.fr 1 FB,.fr 1 FH]],GE⟩) rfl rfl (bg ?J) ?Z
 case J=>
  simp only[b8,bS,bU] at t;simp[qdc,q4x,e,Q,d,i,q,R,p,F,t,f,ef,eS,dB,show pre.length+2+1=pre.length+3 from rfl]
 case Z=>simp[ag,results,q4x,ah,am,af,St.cellsAt,v,E,D,B,z,y]
end
section
attribute [local congr] bu
attribute [local simp] au
section
variable {gh:fB}
abbrev Og (a:Int) (G:fw) (b st:Int) (A c C D:fq):fw:=[I a,.sl false 2 G,I b,I st,LI A,LI c,LI C,LI D]
theorem PZ {c:Int} {G:fw} {inp st:Int} {A B' C D:fq} {p:Int->Bool} (m:∀n,ac pg 3 [.agg [I c,.sl false 2 G],I n] gh=some (B (p n),gh)) (l:Sz A.length) (ha:∀n∈A,n= -1\/p n=true):∀k i,i+k=A.length->
  bm pg qop ⟨[(1,ec),(4,I (i:Nat))],[Og c G inp st A B' C D],gh⟩=fg ⟨[(1,ec)],[Og c G inp st A B' C D],gh⟩
 |0,i,h=>by
  have b:¬i<A.length:=aj;refine (bn (s1:=?J) (bg ?Z)).trans ?Y
  case Z=>simp[qlh,b];rfl
  case Y=>simp[keep,bj]
 | k+1,i,h=>by
  have b:i<A.length:=aj;have j:(A.map I)[i]?=some (I A[i]):=by simp[b]
  have hn:=m A[i];have hw:WI.wrap ((i:Int)+1)=((i+1:Nat):Int):=gv (by simp only[Sz] at l ⊢;omega);have e:=PZ (inp:=inp) (st:=st) (B':=B') (C:=C) (D:=D) m l ha k (i+1) aj;have g:=ha A[i] (cD b);simp only[Og,LI] at e ⊢;generalize A[i]=x at *;have a:i<(A.map I).length:=by simpa using b
  generalize A.map I=L at *;have d:L[i]=I x:=by rw[aA a] at j;exact cZ j
  obtain⟨u,o⟩:∃u:Int,((i+1:Nat):Int)=u:=⟨_,rfl⟩
  rw[o] at hw e;by_cases f:x= -1
  ·refine ay (bg ?K) e
   case K=>simp[qlh,a,d,f,hw]
  ·have q:=g.resolve_left f
   rw[q] at hn;refine ay (bg ?V) e
   case V=>simp[qlh,a,d,f,hw,hn]
structure Sl (c:Ci):Prop where
 chk:cq c.ins c.ands=0
 ra:RA c.ands
 inp:0<=c.inp
 st:0<=c.st
 sum:WI.wrap (c.inp+c.st)=c.ins
 li:(c.inits.length:Int)=c.st
 ln:(c.nexts.length:Int)=c.st
 small:c.inits.length<=1000/\c.nexts.length<=1000/\c.bads.length<=1000/\c.holds.length<=1000
 inits:∀n∈c.inits,n= -1\/fF c.ins c.ands n=true
 lits:(c.nexts.all (fF c.ins c.ands)&&(c.bads.all (fF c.ins c.ands)&&c.holds.all (fF c.ins c.ands)))=true
theorem Sm {c:Ci} (h:Sl c):ac pg 213 [ciV c] gh=some (I 0,gh):=by
 obtain⟨k,hr,z,y,u,t,r,j,q,e⟩:=h;obtain⟨ins,a,inp,st,A,B',C,D⟩:=c;simp only at k hr z y u t r j q e;have m:=Si (ins:=ins) (gh:=gh) hr;rw[k] at m;have g:=dX k;have i:=λ(lits:fq) (j:Sz lits.length)=>Sj (gh:=gh) (lits:=lits) g.1 g.2.1 j
 have f:=λ(n:Int)=>PW (gh:=gh) g.1 g.2.1 n
 simp only[gu,ciV] at m i f ⊢;generalize fF ins a=p,a.map andV=G at *;have d:=PZ (inp:=inp) (st:=st) (B':=B') (C:=C) (D:=D) (A:=A) f (by simp only[Sz];omega) q A.length 0 aj;have o:=i B' (by simp only[Sz];omega);have b:=i C (by simp only[Sz];omega);have l:=i D (by simp only[Sz];omega);simp only[aS] at e;rw[e.1] at o;rw[e.2.1] at b;rw[e.2.2] at l;simp only[aR,Og,LI] at d o b l ⊢;have x:bm pg qn1 ⟨[(1,ec)],[[I ins,.sl false 2 G,I inp,I st,cr (A.map I),cr (B'.map I),cr (C.map I),cr (D.map I)]],gh⟩=fo ⟨[(2,I 0)],[],gh⟩:=by refine bg ?_;simp[qn1,o,b,l]
 have w:¬inp<0:=aj;have v:¬st<0:=aj;refine ak (fn:=qli) (s:=?J) rfl rfl (bg ?Z) ?Y
 case Z=>simp[qoq,qli,m,w,v,u,t,r,d,x];rfl
 case Y=>simp[ag,results,qli,ah,am,af]
end
end
section
attribute [local congr] bu
attribute [local simp] au
def ci0:Ci:=⟨0,[],0,0,[],[],[],[]⟩
section
variable {m:Md} {gh:fB}
theorem S8 (c:Sz m.inits.length) (b:Sz m.nexts.length) (h:dc m≠0):ac pg 214 [e9 m] gh=some (.tup [ciF ci0,I (dc m)],gh):=by
 have a:=Ah (m:=m) (gh:=gh) c b;rw[en] at a ⊢;unfold LI LN LP at *;generalize m.nodes.map nodeV=f,m.inits.map andV=g,m.nexts.map andV=d,m.bads.map I=j,m.holds.map I=i,dc m=e at *;refine ak (fn:=qk8) (s:=⟨[(2,eK),(3,I e)],[[.sl false 6 f,.sl false 2 g,.sl false 2 d,cr j,cr i],[I 0,.sl true 2 [],I 0,I 0,dz [],dz [],dz [],dz []]],gh⟩) rfl rfl (bg ?J) ?Z
 case J=>simp[qlv,qk8,a,h]
 case Z=>simp[ag,results,qk8,ah,am,af,St.cellsAt,ci0,md]
theorem S9 (h:dc m=0) {c:Ci} (hr:ac pg 217 [e9 m] gh=some (ciF c,gh)) (v:c.ands.length<=1000000):ac pg 214 [e9 m] gh=some (.tup [ciF c,I 0],gh):=by
 have u:=kC h;have t:=AI u;have n:=Ah (m:=m) (gh:=gh) (by simp only[Sz];omega) (by simp only[Sz];omega);rw[h] at n;rw[en] at n hr ⊢;obtain⟨ins,A,d,b,a,p,r,q⟩:=c;simp only[ciF,md] at hr v ⊢;have l:¬((1000000:Int)<(A.length:Int)):=aj;have o:(A.map andV).length=A.length:=bh;have e:=N9 A;have k:=yE A;have j:=fZ a;have i:=fZ p;have g:=fZ r;have f:=fZ q;unfold LI LN LP FI1 at *;generalize A.map andV=G,a.map I=B,p.map I=x,r.map I=E,q.map I=D,m.nodes.map nodeV=y at *
 generalize m.inits.map andV=z,m.nexts.map andV=w,m.bads.map I=F,m.holds.map I=C at *;refine ak (fn:=qk8) (s:=⟨[(2,eK),(3,I 0)],[[.sl false 6 y,.sl false 2 z,.sl false 2 w,cr F,cr C],[I ins,.fr 2 G,I d,I b,.fr 1 B,.fr 1 x,.fr 1 E,.fr 1 D]],gh⟩) rfl rfl (bg ?J) ?Z
 case J=>simp[qlv,qk8,n,hr,o,l,e]
 case Z=>simp[ag,results,qk8,ah,am,af,St.cellsAt,k,j,i,g,f]
variable {ins:Int} {v:fS} {A:fN} {bits:ft} {bvs:List fS} {V:fq}
theorem Ta {c:fq} {a:fS} (h:Ls ins v A c a):c.all (fF ins A)=true/\c.length=a.length:=by
 induction c generalizing a with
 |nil=>
  match a,h with
  |[],_=>exact⟨rfl,rfl⟩
 | cons x c d=>
  match a,h with
  |b::a,h=>
   obtain⟨f,e⟩:=d h.2;exact⟨by rw[List.all_cons,h.1.1,f];rfl,by simp[e]⟩
theorem Qv (h:dc m=0) (hr:pj m bits) (d:BitsOk ins v A m.nodes bits bvs V):∀st:fq,(∀s∈st,s∈ci m.nodes 3)->(gY bits m.nexts st).all (fF ins A)=true/\(gY bits m.nexts st).length=iR m.nodes st
 |[],_=>⟨rfl,rfl⟩
 |s::st,e=>by
  have b:=hr.st s (e s (aZ ..));obtain⟨j,i⟩:=Qv h hr d st (λa ha=>e a (bC _ ha));have c:=vh b.hq;have k:wAt m.nodes s=wAt m.nodes (dM m.nexts s):=Bb (KP h).2 _ c;obtain⟨g,o⟩:=Ta (d.ls (dM m.nexts s).toNat b.q1);have f:=d.wd (dM m.nexts s).toNat b.q1;have n:=b.q0;rw[show (((dM m.nexts s).toNat:Nat):Int)=dM m.nexts s by omega] at f;have l:gY bits m.nexts (s::st)=bits.getD (dM m.nexts s).toNat []++gY bits m.nexts st:=by unfold gY;rw[cU]
  rw[l,List.all_append,g,j,aQ,i,iR];exact⟨rfl,aj⟩
theorem Qw {L:List Nd} {P:fN} {W:fq}:∀st:fq,(gZ L P W st).length=iR L st
 |[]=>rfl
 |s::st=>by
  have a:=Qw (L:=L) (P:=P) (W:=W) st;unfold gZ at *;rw[cU,aQ,a,iR]
  congr 1
  split
  ·exact ve _ _ _
  ·exact bM
theorem Qx (hr:pj m bits) (e:BitsOk ins v A m.nodes bits bvs V) {l:fq} (d:∀a∈l,a∈m.bads++m.holds):(dy bits l).all (fF ins A)=true:=by
 rw[bV];intro x c;obtain⟨a,ha,rfl⟩:=List.mem_map.1 c;obtain⟨g,f⟩:=hr.mks a (d a ha);have b:=e.ls a.toNat g.2;generalize bits.getD a.toNat []=L at *
 match L,b with
 |[],_=>exact absurd rfl f
 |y::L,b=>
  match bvs.getD a.toNat [],b with
  |_::_,b=>exact b.1.1
theorem Tb {L:List Nd} {P:fN} {a:fq} (g:0<=ins) (st:fq):∀n∈gZ L P a st,n= -1\/fF ins A n=true:=by
 have c:fF ins A 0=true/\fF ins A 1=true:=by unfold fF fJ;rw[aH,aH];omega
 have f:∀(N m i:Nat),∀x∈cI N i m,fF ins A x=true:=by
  intro N m
  induction m with
  |zero=>intro i x b;cases b
  | succ m d=>
   intro i x b;rw[cI] at b;rcases List.mem_cons.1 b with rfl|b
   ·have:N/2^i%2=0\/N/2^i%2=1:=aj
    rcases this with e|e
    ·rw[e];exact c.1
    ·rw[e];exact c.2
   ·exact d _ x b
 intro x b;unfold gZ at b;obtain⟨s,_,b⟩:=List.mem_flatMap.1 b;split at b
 ·exact .inr (f _ _ _ x b)
 ·exact .inl (List.eq_of_mem_replicate b)
theorem Tc (d:cq ins A=0):RA A:=by obtain⟨f,e,a,_⟩:=dX d;intro x c;obtain⟨i,b,rfl⟩:=cP.1 c;have:=yI a b;unfold kX at this;omega
structure Td (m:Md) (c:Ci) (h:Int):Prop where
 eq:ac pg 214 [e9 m] []=some (.tup [ciF c,I h],[])
 ck:h=0->ac pg 213 [ciV c] []=some (I 0,[])
 sz:c.ands.length<=1000000/\c.inits.length<=1000/\c.nexts.length<=1000/\c.bads.length<=1000/\c.holds.length<=1000
theorem Te (y:Sz m.inits.length) (x:Sz m.nexts.length):∃c h,Td m c h:=by
 by_cases h:dc m=0
 ·obtain⟨o,n,q,p⟩:=vi h
  obtain⟨A,bits,bvs,u,j,B,hr,i⟩:=KW h (rP (ci m.nodes 3)) (rP (ci m.nodes 2)) [];have r:=me h 3;have d:=Qv h hr i (ci m.nodes 3) (λs t=>t);have w:=Qw (L:=m.nodes) (P:=m.inits) (W:=jr m) (ci m.nodes 3);have v:=AN h;have k:=OM h;have D:(dy bits m.bads).length=m.bads.length:=aW _;have C:(dy bits m.holds).length=m.holds.length:=aW _;have g:=Qx hr i (l:=m.bads) λa ha=>aX _ ha
  have f:=Qx hr i (l:=m.holds) λa ha=>aY _ ha
  have z:WI.wrap (cw m.nodes 2+cw m.nodes 3)=inN m:=by unfold inN at *;exact aq aj aj
  have b:A.length<=1000000/\(gZ m.nodes m.inits (jr m) (ci m.nodes 3)).length<=1000/\(gY bits m.nexts (ci m.nodes 3)).length<=1000/\(dy bits m.bads).length<=1000/\(dy bits m.holds).length<=1000:=aj;refine⟨ll (inN m) A (cw m.nodes 2) (cw m.nodes 3) m bits,0,S9 h u b.1,λ_=>Sm ⟨j,Tc j,o,n,z,?_,?_,b.2,Tb q _,?_⟩,b⟩
  ·show ((gZ m.nodes m.inits (jr m) (ci m.nodes 3)).length:Int)=cw m.nodes 3
   omega
  ·show ((gY bits m.nexts (ci m.nodes 3)).length:Int)=cw m.nodes 3
   omega
  ·show ((gY bits m.nexts (ci m.nodes 3)).all (fF (inN m) A)&&((dy bits m.bads).all (fF (inN m) A)&&(dy bits m.holds).all (fF (inN m) A)))=true
   rw[d.1,g,f];rfl
 ·exact⟨ci0,dc m,S8 y x h,λe=>absurd e h,bz⟩
end
end
end Go.Lw