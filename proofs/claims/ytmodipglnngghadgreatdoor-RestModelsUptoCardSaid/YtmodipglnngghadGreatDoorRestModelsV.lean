/-
  The texts that the proof stands on, part 22.
-/
import Derived.Test.YtmodipglnngghadGreatDoorRestModelsH
import Derived.Test.YtmodipglnngghadGreatDoorRestModelsU
import Derived.Shelf.Strconv.Itoa3
import Derived.Shelf.Strconv.AtoiAll
import Derived.Shelf.Strings.Cut
import Derived.Shelf.Strings.Split
set_option linter.unusedVariables false
set_option linter.unusedSimpArgs false
set_option linter.unnecessarySimpa false

set_option maxRecDepth 100000
set_option maxHeartbeats 4000000
namespace Go.Lw
open Go
section
open Go.Sort Go.Shelf Go.Proofs
theorem sr:∀(k u:Nat),u<10^k->0<k->ez k u=Lib.decDigits u
 |0,u,_,h=>absurd h bz
 | k+1,u,a,_=>by
  rw[ez,Lib.decDigits];by_cases h:u<10
  ·rw[if_pos h,dif_pos h]
  ·rw[if_neg h,dif_neg h]
   cases k with
   |zero=>simp at a;omega
   |succ k=>rw[sr (k+1) (u/10) (by rw[Nat.pow_succ] at a;omega) aj]
theorem C3 {n:Int} (b: -9223372036854775808<=n) (a:n<=9223372036854775807):kp n=Lib.itoa n:=by unfold kp Lib.itoa;rw[sr 20 n.natAbs aj bz,sr 20 n.toNat aj bz]
theorem O4 (c:UInt8):∀l:List UInt8,(Lib.index l [c]= -1/\c∉l)\/∃p q,l=p++c::q/\c∉p/\Lib.index l [c]=(p.length:Int)
 |[]=> .inl ⟨by simp[Lib.index],bh⟩
 | b::l=>by
  by_cases h:b=c
  ·subst h
   exact .inr ⟨[],l,rfl,bh,by simp[Lib.index,List.isPrefixOf]⟩
  ·have f:([c]:List UInt8).isPrefixOf (b::l)=false:=by simp[List.isPrefixOf,Ne.symm h]
   have a:Lib.index (b::l) [c]=if Lib.index l [c]== -1 then -1 else Lib.index l [c]+1:=by rw[Lib.index,f];simp
   rcases O4 c l with ⟨e,d⟩|⟨p,q,e,d,g⟩
   ·exact .inl ⟨by rw[a,e];rfl,by simp[d,Ne.symm h]⟩
   ·refine .inr ⟨b::p,q,by rw[e];rfl,by simp[d,Ne.symm h],?_⟩
    rw[a,g,if_neg bh];simp
theorem QV {c:UInt8}:∀{l:List UInt8},c∉l->fp c l=(l,[],false)
 |[],_=>rfl
 |b::l,h=>by simp only[List.mem_cons,not_or] at h;rw[fp,if_neg (Ne.symm h.1),QV h.2]
theorem C5 {c:UInt8} {q:List UInt8}:∀{p:List UInt8},c∉p->fp c (p++c::q)=(p,q,true)
 |[],_=>by simp[fp]
 |b::p,h=>by simp only[List.mem_cons,not_or] at h;rw[bH,fp,if_neg (Ne.symm h.1),C5 h.2]
theorem C6 {c:UInt8}:∀{l:List UInt8},c∉l->cu c l=[l]
 |[],_=>rfl
 |b::l,h=>by simp only[List.mem_cons,not_or] at h;rw[cu,if_neg (Ne.symm h.1),C6 h.2]
theorem C7 {c:UInt8} {q:List UInt8}:∀{p:List UInt8},c∉p->cu c (p++c::q)=p::cu c q
 |[],_=>by simp[cu]
 |b::p,h=>by simp only[List.mem_cons,not_or] at h;rw[bH,cu,if_neg (Ne.symm h.1),C7 h.2]
theorem Nn (c:UInt8) (l:List UInt8):Lib.cut l [c]=fp c l:=by
 unfold Lib.cut;rcases O4 c l with ⟨b,a⟩|⟨p,q,b,a,d⟩
 ·rw[if_neg aj,QV a]
 ·rw[if_pos aj,d,b,C5 a]
  simp
theorem Np (c:UInt8):∀(k:Nat) (l:List UInt8),l.count c=k->Lib.splitB (bA [c]) 0 k (bA l)=(cu c l).map bA:=by
 intro k
 induction k with
 |zero=>
  intro l h;rw[C6 (List.count_eq_zero.1 h)];rfl
 | succ k g=>
  intro l h;rcases O4 c l with ⟨d,a⟩|⟨p,q,d,a,i⟩
  ·rw[List.count_eq_zero.2 a] at h;cases h
  ·have b:Lib.indexB (bA l) (bA [c])=(p.length:Int):=i
   rw[Lib.splitB_hit _ _ _ _ _ b];subst d;rw[List.count_append,List.count_eq_zero.2 a,List.count_cons_self] at h;have m:(bA (p++c::q)).extract 0 (p.length+0)=bA p:=by apply ByteArray.ext;rw[ByteArray.data_extract];simp
   have j:(bA (p++c::q)).extract (p.length+(bA [c]).size) (bA (p++c::q)).size=bA q:=by
    have f:(bA [c]).size=1:=rfl;have e:(bA (p++c::q)).size=(p++c::q).length:=by simp[bA,ByteArray.size]
    apply ByteArray.ext;rw[ByteArray.data_extract,f,e];simp;rw[bK aj]
   rw[m,j,g q aj,C7 a];rfl
section
variable {fi:FI} {P:Program} {ρ:Ren} {M:Mem} {w W:World} {gh:fB}
theorem GI.same (c:GI fi M w gh) (n:W.os=w.os) (m:W.tape=w.tape) (e:W.output=w.output) (d:w.heap.size<=W.heap.size) (a:∀k,k<w.heap.size->W.heap[k]?=w.heap[k]?):GI fi M W gh/\Kp M w M W:=by
 have g:Good M w M W (λ_=>False) (λ_=>False):=by
  refine⟨⟨λ_ _ h=>h,λ_ _ h=>h,λb k h=>?_,λ_ _=>⟨cW _,λ_=>rfl⟩,λb k h=>m8 (a b (c.immlt b k h))⟩,d,λ_ _ h=>h,λb l h x=>?_,λb q _ h=>?_,λ_ _=>rfl⟩
  ·exact pM (a b (c.immlt b k h))
  ·exact⟨h,a b (c.ownlt b l h),λ_ h=>h,id,id⟩
  ·exact⟨a b q,λ_ h=>h,h⟩
 have k:Kp M w M W:=⟨n,m,e,d,g.ext,λi p _ _ u=>a i p,λ_ h=> .inl h,λ_ h=> .inl h,λ_ _ h=>h,λ_ _ h=> .inl h,.same rfl⟩
 refine⟨⟨λt v h=>by simp[get] at h,c.defers,c.lbl,c.gbl,c.nodup,λi y f h=>by simp at h,λi o f s r=>?_,g.ext.gl c.gl,λb j h=>aO (c.immlt b j h) d,λb l h=>aO (c.ownlt b l h) d,λb h=>aO (c.gblt b h) d⟩,k⟩;exact (c.gh i o f s r).good g id (λj h=>h)
def jz (a:FI) (w:World):Prop:=∀x∈a.gl,w.cell? ⟨x.1,x.2.1,none⟩=x.2.2
theorem GI.glAt (b:GI fi M w gh):jz fi w:=λx a=>(b.gl x a).2
def wc (g:Nat) (b:IntKind) (a:fq):List (Nat×Nat×Option Value):=(List.range (a.length+1)).map λi=>(g,i,a[i]?.map (Value.int b))
theorem Nq {P:Program} {l:FI} {w:World} {c:String} {g:Nat} {f:IntKind} {b:fq} (hn:P.globalNamed c=some g) (q:0<b.length) (o:∀x∈wc g f b,x∈l.gl) (h:jz l w):Lib.TabIs P w c f b:=by
 have d:∀i,i<=b.length->w.cell? ⟨g,i,none⟩=b[i]?.map (Value.int f):=λi k=>
  h (g,i,b[i]?.map (Value.int f)) (o _ (List.mem_map.2 ⟨i,List.mem_range.2 aj,rfl⟩))
 unfold Lib.TabIs World.var?;rw[hn,cJ];have a:=d 0 aj;rw[aA q] at a;unfold World.cell? at d a;simp only at d a;split at a
 ·rename_i m e r p
  simp only[p,Option.isSome_none,bR,if_false] at d ⊢
  congr 1
  apply Array.ext_getElem?;intro i;by_cases k:i<=b.length
  ·rw[d i k];simp
  ·have j:=d b.length (cW _)
   rw[List.getElem?_eq_none (cW _)] at j;have n:m.size<=b.length:=by
    rcases Nat.lt_or_ge b.length m.size with h|h
    ·rw[Array.getElem?_eq_getElem h] at j;cases j
    ·exact h
   rw[Array.getElem?_eq_none aj,Array.getElem?_eq_none (by simp;omega)]
 ·simp at a
theorem Nr (L : LaysM.n171 P ρ) (i : ∀ w, jz fi w → Lib.TabIs P w "internal/strconv.uint64pow10" .u64 Lib.pow10Tab) (l : fw) (q : fB) (r : PV) (c : fB) (h : libItoa l q = some (r, c)) : eG P fi (ρ.f 171) l q r c := by
 intro M w s p g o b a;unfold libItoa at h;split at h
 ·rename_i n
  split at h
  case isFalse=>cases h
  rename_i d;cases h;obtain⟨v,rfl⟩:=List.length_eq_one_iff.1 b;have t:=a 0 _ _ rfl rfl;cases t;refine (Any.strconv_Itoa L n d.1 d.2 w (i w p.glAt)).mono ?_;rintro e z ⟨rfl,k,m,rfl⟩;obtain⟨y,x⟩:=GI.same (W:=grow (w.drewN k) m) p rfl rfl rfl (by simp[grow,World.drewN]) (λj u=>by
   show ((w.drewN k).heap++m)[j]?=w.heap[j]?
   have e:(w.drewN k).heap=w.heap:=rfl;rw[e,Array.getElem?_append_left u])
  rw[C3 d.1 d.2];exact⟨_,M,rfl,y,g,rfl,(RepP.str _).repE.repAt,x⟩
 ·cases h
theorem Ns (L:Lays.n145 P ρ) (B:∀w,jz fi w->∃m,w.cell? ⟨ρ.g 1,0,none⟩=some (.int .i64 m)) (C:fw) (H:fB) (r:PV) (t:fB) (h:libCut C H=some (r,t)):eG P fi (ρ.f 145) C H r t:=by
 intro M w k G A F q d;unfold libCut at h;split at h
 ·rename_i s v
  split at h
  case h_2=>cases h
  rename_i c p;split at h
  case isFalse=>cases h
  rename_i I;cases h;obtain⟨E,D,rfl⟩:∃E D,k=[E,D]:=by
   match k,q with
   |[a,b],_=>exact⟨a,b,rfl⟩
  have z:=d 0 _ _ rfl rfl;have y:=d 1 _ _ rfl rfl;cases z;cases y;obtain⟨m,N⟩:=B w G.glAt;refine (Any.strings_Cut L s v m w I N).mono ?_;rintro e R ⟨rfl,n,rfl⟩;obtain⟨Q,O⟩:=GI.same (W:=w.drewN n) G rfl rfl rfl (cW _) (λj S=>rfl);rw[p,Nn];refine⟨_,M,rfl,Q,A,rfl,?_,O⟩;refine⟨[.string (bA (fp c s.data.toList).1),.string (bA (fp c s.data.toList).2.1),.bool (fp c s.data.toList).2.2],rfl,rfl,?_⟩;intro i x u l o
  match i,l,o with
  |0,l,o=>cases l;cases o;exact (RepP.str _).repC
  |1,l,o=>cases l;cases o;exact (RepP.str _).repC
  |2,l,o=>cases l;cases o;exact (RepP.bool _).repC
 ·cases h
theorem GI.sameNew (d:GI fi M w gh) (q:W.os=w.os) (p:W.tape=w.tape) (m:W.output=w.output) (f:w.heap.size<W.heap.size) (a:∀k,k<w.heap.size->W.heap[k]?=w.heap[k]?) :
  GI fi {M with imm:=λb k=>M.imm b k\/b=w.heap.size } W gh/\Kp M w {M with imm:=λb k=>M.imm b k\/b=w.heap.size } W:=by
 have g:Good M w {M with imm:=λb k=>M.imm b k\/b=w.heap.size } W (λ_=>False) (λ_=>False):=by
  refine⟨⟨λ_ _ h=>h,λ_ _ h=> .inl h,λc k h=>?_,λ_ _=>⟨cW _,λ_=>rfl⟩,λc k h=>m8 (a c (d.immlt c k h))⟩,Nat.le_of_lt f,λ_ _ h=>h,λc l h A=>?_,λc u _ h=>?_,λ_ _=>rfl⟩
  ·exact pM (a c (d.immlt c k h))
  ·exact⟨h,a c (d.ownlt c l h),λk r=>λe=>e.elim r (λe=>absurd (d.ownlt c l h) aj),id,id⟩
  ·exact⟨a c u,λk r=>λe=>e.elim r (λe=>aj),h⟩
 have k:Kp M w {M with imm:=λb k=>M.imm b k\/b=w.heap.size } W:=⟨q,p,m,Nat.le_of_lt f,g.ext,λi s _ _ z=>a i s,λ_ h=> .inl h,λ_ h=> .inl h,λ_ _ h=>h,λb k h=>h.elim .inl (λe=> .inr (.inl aj)),.same rfl⟩
 refine⟨⟨λt v h=>by simp[get] at h,d.defers,d.lbl,d.gbl,d.nodup,λi B n h=>by simp at h,λi o n y x=>?_,g.ext.gl d.gl,λc j h=>h.elim (λh=>Nat.lt_trans (d.immlt c j h) f) (λe=>aj),λc l h=>Nat.lt_trans (d.ownlt c l h) f,λc h=>Nat.lt_trans (d.gblt c h) f⟩,k⟩;exact (d.gh i o n y x).good g id (λj h=>h)
theorem Nt (L:Lays.n146 P ρ) (I:(P.info? (ρ.t 9)).map (λi=>(i.zero,i.size,i.bytes))=some (some (.string ByteArray.empty),1,16)) (N:∀w,jz fi w->∃m,w.cell? ⟨ρ.g 1,0,none⟩=some (.int .i64 m)) (Q:fw) (gh:fB) (r:PV) (B:fB) (h:libSplit Q gh=some (r,B)):eG P fi (ρ.f 146) Q gh r B:=by
 intro M w q U G T z n;unfold libSplit at h;split at h
 ·rename_i s u
  split at h
  case h_2=>cases h
  rename_i c k;split at h
  case isFalse=>cases h
  rename_i hs;cases h;obtain⟨S,R,rfl⟩:∃S R,q=[S,R]:=by
   match q,z with
   |[a,b],_=>exact⟨a,b,rfl⟩
  have E:=n 0 _ _ rfl rfl;have D:=n 1 _ _ rfl rfl;cases E;cases D;obtain⟨m,hm⟩:=N w U.glAt;have F:u=bA [c]:=by obtain⟨⟨l⟩⟩:=u;simp only at k;rw[k]
  subst F;have A:Lib.countB s (bA [c])=s.data.toList.count c:=Lib.count_one c _;have aa:s=bA s.data.toList:=rfl;have v:Lib.splitB (bA [c]) 0 (Lib.countB s (bA [c])) s=(cu c s.data.toList).map bA:=by rw[A];exact Np c _ s.data.toList rfl
  have y:=Lib.splitB_all (bA [c]) (cW 1) 0 _ s rfl;refine (Any.strings_Split L I s (bA [c]) m w hs hm (cW 1)).mono ?_;rintro e w' ⟨rfl,rfl⟩;rw[v] at y ⊢;obtain⟨h1,h2⟩:=GI.sameNew (W:=w.alloc (.cells (((cu c s.data.toList).map bA).map Value.string).toArray (ρ.t 9))) U rfl rfl rfl (by show w.heap.size<(w.heap.push _).size;rw[Array.size_push];omega) (λj hj=>by
   show (w.heap.push _)[j]?=w.heap[j]?
   rw[Array.getElem?_push,if_neg aj])
  refine⟨_,_,rfl,h1,G,rfl,?_,h2⟩;have H:((cu c s.data.toList).map λx=>PV.str (bA x)).length=Lib.countB s (bA [c])+1:=by rw[<-y];simp
  rw[<-H];generalize cu c s.data.toList=X;refine (RepP.sl (fi:=fi) 1 _ _ _ w.heap.size 0 (λi=>(Value.string ((X.map bA).getD i ⟨#[]⟩))) (.inr rfl) (cW _) ?_ ?_ ?_ ?_).repE.repAt
  ·intro e d
   obtain⟨x,-,rfl⟩:=List.mem_map.1 d;rfl
  ·intro e d
   obtain⟨x,-,rfl⟩:=List.mem_map.1 d;rfl
  ·intro i e j p d o
   rw[aB,aE] at d;obtain⟨x,C,rfl⟩:=d;obtain rfl:j=0:=by
    match j,o with
    |0,_=>rfl
    |j+1,o=>cases o
   refine⟨.inr rfl,?_⟩;have hc:(((X.map bA).map Value.string).toArray)[i]?=some (.string (bA x)):=by simp[C]
   have O:(X.map bA).getD i ⟨#[]⟩=bA x:=by simp[List.getD,C]
   simp only[Nat.mul_one,cX,cG,O];rw[cell_of_row _ w.heap.size i (((X.map bA).map Value.string).toArray) (ρ.t 9) (0,0) (by show (w.heap.push _)[w.heap.size]?=_;simp)];exact hc
  ·intro i e j p d o
   rw[aB,aE] at d;obtain⟨x,C,rfl⟩:=d;obtain rfl:j=0:=by
    match j,o with
    |0,_=>rfl
    |j+1,o=>cases o
   cases o;have O:(X.map bA).getD i ⟨#[]⟩=bA x:=by simp[List.getD,C]
   simp only[Nat.mul_one,cG,O];exact .str _
 ·cases h
theorem su {l:Nat->Loc} {p q:PV} {u v:Value} (d:RepP fi M w p u) (c:RepP fi M w q v):RepAt fi M w l (.tup [p,q]) (.tuple #[u,v]):=by
 refine⟨[u,v],rfl,rfl,?_⟩;intro i x y b a
 match i,b,a with
 |0,b,a=>cases b;cases a;exact d.repC
 |1,b,a=>cases b;cases a;exact c.repC
theorem Nu (L:LaysC.n172 P ρ) (A:∀w,jz fi w->∃q u,w.cell? ⟨ρ.g 15,0,none⟩=some (.iface q u)) (z:∀w,jz fi w->∃q u,w.cell? ⟨ρ.g 16,0,none⟩=some (.iface q u)) (B:fw) (p:fB) (r:PV) (o:fB) (h:libAtoi B p=some (r,o)):eG P fi (ρ.f 172) B p r o:=by
 intro M w F k d E m l;unfold libAtoi at h;split at h
 ·rename_i s
  split at h
  case isFalse=>cases h
  rename_i C;obtain⟨v,rfl⟩:=List.length_eq_one_iff.1 m;have G:=l 0 _ _ rfl rfl;cases G;obtain⟨S,U,y⟩:=A w k.glAt;obtain⟨R,T,x⟩:=z w k.glAt;split at h
  ·rename_i n hn
   cases h;refine (Any.strconv_Atoi_ok L s aj n hn w).mono ?_;rintro e c ⟨rfl,hw⟩;have a:GI fi M c p/\Kp M w M c:=by
    rcases hw with rfl|⟨t,rfl⟩
    ·exact⟨k,Kp.refl _ _⟩
    ·exact GI.same k rfl rfl rfl (by rw[Lib.bytesWorld_size];omega) (λj H=>Lib.bytesWorld_at_old w _ t j H)
   exact⟨_,M,rfl,a.1,d,rfl,su (.int _ _) .nilI,a.2⟩
  ·rename_i hn
   cases h;refine (Any.strconv_Atoi_range L s C hn _ w x (.inr ⟨_,_,rfl⟩)).mono ?_;rintro e c ⟨N,rfl,I,i,b⟩;have a:GI fi M c p/\Kp M w M c:=GI.same k b.os b.tape b.output b.size b.block;exact⟨_,M,rfl,a.1,d,rfl,su (.int _ _) (.someI _ _),a.2⟩
  ·rename_i Q O
   cases h;refine (Any.strconv_Atoi_syntax L s C (by rcases D:Lib.atoiAll s.data.toList with v|_|_;exact (Q v D).elim;rfl;exact (O D).elim) _ w y (.inr ⟨_,_,rfl⟩)).mono ?_;rintro e c ⟨N,rfl,I,i,b⟩;have a:GI fi M c p/\Kp M w M c:=GI.same k b.os b.tape b.output b.size b.block;exact⟨_,M,rfl,a.1,d,rfl,su (.int _ _) (.someI _ _),a.2⟩
 ·cases h
end
end
end Go.Lw