/-
  The texts that the proof stands on, part 22.
-/
import Derived.Test.YtmodipglnngghacGreatDoorExploreFindsU
import Derived.Shelf.Strconv.Itoa3
import Derived.Shelf.Strconv.AtoiAll
import Derived.Shelf.Strings.Cut
import Derived.Shelf.Strings.Split
set_option linter.unusedVariables false
set_option linter.unusedSimpArgs false
set_option linter.unnecessarySimpa false

set_option maxRecDepth 100000
set_option maxHeartbeats 4000000
namespace Go.Lw
open Go
section
open Go.Sort Go.Shelf Go.Proofs
theorem og:∀(k u:Nat),u<10^k->0<k->jR k u=Lib.decDigits u
 |0,u,_,h=>absurd h (by decide)
 | k+1,u,hu,_=>by
  rw[jR,Lib.decDigits];by_cases h:u<10
  ·rw[if_pos h,dif_pos h]
  ·rw[if_neg h,dif_neg h]
   cases k with
   |zero=>simp at hu;omega
   |succ k=>rw[og (k+1) (u/10) (by rw[Nat.pow_succ] at hu;omega) (by omega)]
theorem Bl {n:Int} (h0: -9223372036854775808<=n) (h1:n<=9223372036854775807):mW n=Lib.itoa n:=by unfold mW Lib.itoa;rw[og 20 n.natAbs (by omega) (by decide),og 20 n.toNat (by omega) (by decide)]
theorem oh (c:UInt8):∀l:List UInt8,(Lib.index l [c]= -1/\c∉l)\/∃p q,l=p++c::q/\c∉p/\Lib.index l [c]=(p.length:Int)
 |[]=> .inl ⟨by simp[Lib.index],by simp⟩
 | b::l=>by
  by_cases h:b=c
  ·subst h
   exact .inr ⟨[],l,rfl,by simp,by simp[Lib.index,List.isPrefixOf]⟩
  ·have hp:([c]:List UInt8).isPrefixOf (b::l)=false:=by simp[List.isPrefixOf,Ne.symm h]
   have hix:Lib.index (b::l) [c]=if Lib.index l [c]== -1 then -1 else Lib.index l [c]+1:=by rw[Lib.index,hp];simp
   rcases oh c l with ⟨h1,h2⟩|⟨p,q,h1,h2,h3⟩
   ·exact .inl ⟨by rw[hix,h1];rfl,by simp[h2,Ne.symm h]⟩
   ·refine .inr ⟨b::p,q,by rw[h1];rfl,by simp[h2,Ne.symm h],?_⟩
    rw[hix,h3,if_neg (by simp)];simp
theorem tW {c:UInt8}:∀{l:List UInt8},c∉l->eG c l=(l,[],false)
 |[],_=>rfl
 |b::l,h=>by simp only[List.mem_cons,not_or] at h;rw[eG,if_neg (Ne.symm h.1),tW h.2]
theorem tX {c:UInt8} {q:List UInt8}:∀{p:List UInt8},c∉p->eG c (p++c::q)=(p,q,true)
 |[],_=>by simp[eG]
 |b::p,h=>by simp only[List.mem_cons,not_or] at h;rw[bJ,eG,if_neg (Ne.symm h.1),tX h.2]
theorem tY {c:UInt8}:∀{l:List UInt8},c∉l->eO c l=[l]
 |[],_=>rfl
 |b::l,h=>by simp only[List.mem_cons,not_or] at h;rw[eO,if_neg (Ne.symm h.1),tY h.2]
theorem tZ {c:UInt8} {q:List UInt8}:∀{p:List UInt8},c∉p->eO c (p++c::q)=p::eO c q
 |[],_=>by simp[eO]
 |b::p,h=>by simp only[List.mem_cons,not_or] at h;rw[bJ,eO,if_neg (Ne.symm h.1),tZ h.2]
theorem Bm (c:UInt8) (l:List UInt8):Lib.cut l [c]=eG c l:=by
 unfold Lib.cut;rcases oh c l with ⟨h1,h2⟩|⟨p,q,h1,h2,h3⟩
 ·rw[if_neg (by omega),tW h2]
 ·rw[if_pos (by omega),h3,h1,tX h2]
  simp
theorem Bn (c:UInt8):∀(k:Nat) (l:List UInt8),l.count c=k->Lib.splitB (bA [c]) 0 k (bA l)=(eO c l).map bA:=by
 intro k
 induction k with
 |zero=>
  intro l h;rw[tY (List.count_eq_zero.1 h)];rfl
 | succ k ih=>
  intro l h;rcases oh c l with ⟨h1,h2⟩|⟨p,q,h1,h2,h3⟩
  ·rw[List.count_eq_zero.2 h2] at h;cases h
  ·have hix:Lib.indexB (bA l) (bA [c])=(p.length:Int):=h3
   rw[Lib.splitB_hit _ _ _ _ _ hix];subst h1;rw[List.count_append,List.count_eq_zero.2 h2,List.count_cons_self] at h;have e1:(bA (p++c::q)).extract 0 (p.length+0)=bA p:=by apply ByteArray.ext;rw[ByteArray.data_extract];simp
   have e2:(bA (p++c::q)).extract (p.length+(bA [c]).size) (bA (p++c::q)).size=bA q:=by
    have z1:(bA [c]).size=1:=rfl;have z2:(bA (p++c::q)).size=(p++c::q).length:=by simp[bA,ByteArray.size]
    apply ByteArray.ext;rw[ByteArray.data_extract,z1,z2];simp;rw[bN (by omega)]
   rw[e1,e2,ih q (by omega),tZ h2];rfl
section
variable {fi:FI} {P:Program} {ρ:Ren} {M:Mem} {w W:World} {gh:List GObj}
theorem GI.same (hG:GI fi M w gh) (hos:W.os=w.os) (htp:W.tape=w.tape) (hout:W.output=w.output) (hsz:w.heap.size<=W.heap.size) (hoth:∀k,k<w.heap.size->W.heap[k]?=w.heap[k]?):GI fi M W gh/\Kp M w M W:=by
 have g:Good M w M W (λ_=>False) (λ_=>False):=by
  refine⟨⟨λ_ _ h=>h,λ_ _ h=>h,λbb k h=>?_,λ_ _=>⟨cN _,λ_=>rfl⟩⟩,hsz,λ_ _ h=>h,λbb l h hl=>?_,λbb hb _ h=>?_,λ_ _=>rfl⟩
  ·exact tU (hoth bb (hG.immlt bb k h))
  ·exact⟨h,hoth bb (hG.ownlt bb l h),λ_ h=>h,id,id⟩
  ·exact⟨hoth bb hb,λ_ h=>h,h⟩
 have k:Kp M w M W:=⟨hos,htp,hout,hsz,g.ext,λi hi _ _ ho=>hoth i hi,λ_ h=> .inl h,λ_ h=> .inl h,λ_ _ h=>h,λ_ _ h=> .inl h,.same rfl⟩
 refine⟨⟨λt v h=>by simp[get] at h,hG.defers,hG.lbl,hG.gbl,hG.nodup,λi cs blk h=>by simp at h,λi o blk h1 h2=>?_,g.ext.gl hG.gl,λbb j h=>aS (hG.immlt bb j h) hsz,λbb l h=>aS (hG.ownlt bb l h) hsz,λbb h=>aS (hG.gblt bb h) hsz⟩,k⟩;exact (hG.gh i o blk h1 h2).good g id (λj h=>h)
def fK (fi:FI) (w:World):Prop:=∀x∈fi.gl,w.cell? ⟨x.1,x.2.1,none⟩=x.2.2
theorem GI.glAt (hG:GI fi M w gh):fK fi w:=λx hx=>(hG.gl x hx).2
def oi (g:Nat) (kd:IntKind) (zs:List Int):List (Nat×Nat×Option Value):=(List.range (zs.length+1)).map λi=>(g,i,zs[i]?.map (Value.int kd))
theorem Bo {P:Program} {fi:FI} {w:World} {name:String} {g:Nat} {kd:IntKind} {zs:List Int} (hn:P.globalNamed name=some g) (h0:0<zs.length) (hs:∀x∈oi g kd zs,x∈fi.gl) (h:fK fi w):Lib.TabIs P w name kd zs:=by
 have hc:∀i,i<=zs.length->w.cell? ⟨g,i,none⟩=zs[i]?.map (Value.int kd):=λi hi=>
  h (g,i,zs[i]?.map (Value.int kd)) (hs _ (List.mem_map.2 ⟨i,List.mem_range.2 (by omega),rfl⟩))
 unfold Lib.TabIs World.var?;rw[hn,cC];have hc0:=hc 0 (by omega);rw[aA h0] at hc0;unfold World.cell? at hc hc0;simp only at hc hc0;split at hc0
 ·rename_i cs e fr hb
  simp only[hb,Option.isSome_none,bP,if_false] at hc ⊢
  congr 1
  apply Array.ext_getElem?;intro i;by_cases hi:i<=zs.length
  ·rw[hc i hi];simp
  ·have hz:=hc zs.length (cN _)
   rw[List.getElem?_eq_none (cN _)] at hz;have hsz:cs.size<=zs.length:=by
    rcases Nat.lt_or_ge zs.length cs.size with h|h
    ·rw[Array.getElem?_eq_getElem h] at hz;cases hz
    ·exact h
   rw[Array.getElem?_eq_none (by omega),Array.getElem?_eq_none (by simp;omega)]
 ·simp at hc0
theorem Bp (L : LaysM.n171 P ρ) (hfi : ∀ w, fK fi w → Lib.TabIs P w "internal/strconv.uint64pow10" .u64 Lib.pow10Tab) (vs : List PV) (gh : List GObj) (r : PV) (gh' : List GObj) (h : libItoa vs gh = some (r, gh')) : eq P fi (ρ.f 171) vs gh r gh' := by
 intro M w args hG hlb hown hlen hrep;unfold libItoa at h;split at h
 ·rename_i n
  split at h
  case isFalse=>cases h
  rename_i hc;cases h;obtain⟨v,rfl⟩:=List.length_eq_one_iff.1 hlen;have hv:=hrep 0 _ _ rfl rfl;cases hv;refine (Any.strconv_Itoa L n hc.1 hc.2 w (hfi w hG.glAt)).mono ?_;rintro e w' ⟨rfl,k,os,rfl⟩;obtain⟨h1,h2⟩:=GI.same (W:=grow (w.drewN k) os) hG rfl rfl rfl (by simp[grow,World.drewN]) (λj hj=>by
   show ((w.drewN k).heap++os)[j]?=w.heap[j]?
   have e:(w.drewN k).heap=w.heap:=rfl;rw[e,Array.getElem?_append_left hj])
  rw[Bl hc.1 hc.2];exact⟨_,M,rfl,h1,hlb,rfl,(RepP.str _).repE.repAt,h2⟩
 ·cases h
theorem Bq (L:Lays.n145 P ρ) (hfi:∀w,fK fi w->∃m,w.cell? ⟨ρ.g 1,0,none⟩=some (.int .i64 m)) (vs:List PV) (gh:List GObj) (r:PV) (gh':List GObj) (h:libCut vs gh=some (r,gh')):eq P fi (ρ.f 145) vs gh r gh':=by
 intro M w args hG hlb hown hlen hrep;unfold libCut at h;split at h
 ·rename_i s sep
  split at h
  case h_2=>cases h
  rename_i c hsep;split at h
  case isFalse=>cases h
  rename_i hs;cases h;obtain⟨v0,v1,rfl⟩:∃v0 v1,args=[v0,v1]:=by
   match args,hlen with
   |[a,b],_=>exact⟨a,b,rfl⟩
  have hv0:=hrep 0 _ _ rfl rfl;have hv1:=hrep 1 _ _ rfl rfl;cases hv0;cases hv1;obtain⟨m,hm⟩:=hfi w hG.glAt;refine (Any.strings_Cut L s sep m w hs hm).mono ?_;rintro e w' ⟨rfl,n,rfl⟩;obtain⟨h1,h2⟩:=GI.same (W:=w.drewN n) hG rfl rfl rfl (cN _) (λj hj=>rfl);rw[hsep,Bm];refine⟨_,M,rfl,h1,hlb,rfl,?_,h2⟩;refine⟨[.string (bA (eG c s.data.toList).1),.string (bA (eG c s.data.toList).2.1),.bool (eG c s.data.toList).2.2],rfl,rfl,?_⟩;intro i x u hx hu
  match i,hx,hu with
  |0,hx,hu=>cases hx;cases hu;exact (RepP.str _).repC
  |1,hx,hu=>cases hx;cases hu;exact (RepP.str _).repC
  |2,hx,hu=>cases hx;cases hu;exact (RepP.bool _).repC
 ·cases h
theorem GI.sameNew (hG:GI fi M w gh) (hos:W.os=w.os) (htp:W.tape=w.tape) (hout:W.output=w.output) (hsz:w.heap.size<W.heap.size) (hoth:∀k,k<w.heap.size->W.heap[k]?=w.heap[k]?) :
  GI fi {M with imm:=λb k=>M.imm b k\/b=w.heap.size } W gh/\Kp M w {M with imm:=λb k=>M.imm b k\/b=w.heap.size } W:=by
 have g:Good M w {M with imm:=λb k=>M.imm b k\/b=w.heap.size } W (λ_=>False) (λ_=>False):=by
  refine⟨⟨λ_ _ h=>h,λ_ _ h=> .inl h,λbb k h=>?_,λ_ _=>⟨cN _,λ_=>rfl⟩⟩,Nat.le_of_lt hsz,λ_ _ h=>h,λbb l h hl=>?_,λbb hb _ h=>?_,λ_ _=>rfl⟩
  ·exact tU (hoth bb (hG.immlt bb k h))
  ·exact⟨h,hoth bb (hG.ownlt bb l h),λk hk=>λe=>e.elim hk (λe=>absurd (hG.ownlt bb l h) (by omega)),id,id⟩
  ·exact⟨hoth bb hb,λk hk=>λe=>e.elim hk (λe=>by omega),h⟩
 have k:Kp M w {M with imm:=λb k=>M.imm b k\/b=w.heap.size } W:=⟨hos,htp,hout,Nat.le_of_lt hsz,g.ext,λi hi _ _ ho=>hoth i hi,λ_ h=> .inl h,λ_ h=> .inl h,λ_ _ h=>h,λb k h=>h.elim .inl (λe=> .inr (.inl (by omega))),.same rfl⟩
 refine⟨⟨λt v h=>by simp[get] at h,hG.defers,hG.lbl,hG.gbl,hG.nodup,λi cs blk h=>by simp at h,λi o blk h1 h2=>?_,g.ext.gl hG.gl,λbb j h=>h.elim (λh=>Nat.lt_trans (hG.immlt bb j h) hsz) (λe=>by omega),λbb l h=>Nat.lt_trans (hG.ownlt bb l h) hsz,λbb h=>Nat.lt_trans (hG.gblt bb h) hsz⟩,k⟩;exact (hG.gh i o blk h1 h2).good g id (λj h=>h)
theorem Br (L:Lays.n146 P ρ) (hi9:(P.info? (ρ.t 9)).map (λi=>(i.zero,i.size,i.bytes))=some (some (.string ByteArray.empty),1,16)) (hfi:∀w,fK fi w->∃m,w.cell? ⟨ρ.g 1,0,none⟩=some (.int .i64 m)) (vs:List PV) (gh:List GObj) (r:PV) (gh':List GObj) (h:libSplit vs gh=some (r,gh')):eq P fi (ρ.f 146) vs gh r gh':=by
 intro M w args hG hlb hown hlen hrep;unfold libSplit at h;split at h
 ·rename_i s sep
  split at h
  case h_2=>cases h
  rename_i c hsep;split at h
  case isFalse=>cases h
  rename_i hs;cases h;obtain⟨v0,v1,rfl⟩:∃v0 v1,args=[v0,v1]:=by
   match args,hlen with
   |[a,b],_=>exact⟨a,b,rfl⟩
  have hv0:=hrep 0 _ _ rfl rfl;have hv1:=hrep 1 _ _ rfl rfl;cases hv0;cases hv1;obtain⟨m,hm⟩:=hfi w hG.glAt;have hsp:sep=bA [c]:=by obtain⟨⟨l⟩⟩:=sep;simp only at hsep;rw[hsep]
  subst hsp;have hcnt:Lib.countB s (bA [c])=s.data.toList.count c:=Lib.count_one c _;have hse:s=bA s.data.toList:=rfl;have hspl:Lib.splitB (bA [c]) 0 (Lib.countB s (bA [c])) s=(eO c s.data.toList).map bA:=by rw[hcnt];exact Bn c _ s.data.toList rfl
  have hln:=Lib.splitB_all (bA [c]) (cN 1) 0 _ s rfl;refine (Any.strings_Split L hi9 s (bA [c]) m w hs hm (cN 1)).mono ?_;rintro e w' ⟨rfl,rfl⟩;rw[hspl] at hln ⊢;obtain⟨h1,h2⟩:=GI.sameNew (W:=w.alloc (.cells (((eO c s.data.toList).map bA).map Value.string).toArray (ρ.t 9))) hG rfl rfl rfl (by show w.heap.size<(w.heap.push _).size;rw[Array.size_push];omega) (λj hj=>by
   show (w.heap.push _)[j]?=w.heap[j]?
   rw[Array.getElem?_push,if_neg (by omega)])
  refine⟨_,_,rfl,h1,hlb,rfl,?_,h2⟩;have hl2:((eO c s.data.toList).map λx=>PV.str (bA x)).length=Lib.countB s (bA [c])+1:=by rw[<-hln];simp
  rw[<-hl2];generalize eO c s.data.toList=X;refine (RepP.sl (fi:=fi) 1 _ _ _ w.heap.size 0 (λi=>(Value.string ((X.map bA).getD i ⟨#[]⟩))) (.inr rfl) (cN _) ?_ ?_ ?_ ?_).repE.repAt
  ·intro e he
   obtain⟨x,-,rfl⟩:=List.mem_map.1 he;rfl
  ·intro e he
   obtain⟨x,-,rfl⟩:=List.mem_map.1 he;rfl
  ·intro i e j p he hp
   rw[aB,aE] at he;obtain⟨x,hx,rfl⟩:=he;obtain rfl:j=0:=by
    match j,hp with
    |0,_=>rfl
    |j+1,hp=>cases hp
   refine⟨.inr rfl,?_⟩;have hc:(((X.map bA).map Value.string).toArray)[i]?=some (.string (bA x)):=by simp[hx]
   have hd:(X.map bA).getD i ⟨#[]⟩=bA x:=by simp[List.getD,hx]
   simp only[Nat.mul_one,cO,cB,hd];rw[cell_of_row _ w.heap.size i (((X.map bA).map Value.string).toArray) (ρ.t 9) (0,0) (by show (w.heap.push _)[w.heap.size]?=_;simp)];exact hc
  ·intro i e j p he hp
   rw[aB,aE] at he;obtain⟨x,hx,rfl⟩:=he;obtain rfl:j=0:=by
    match j,hp with
    |0,_=>rfl
    |j+1,hp=>cases hp
   cases hp;have hd:(X.map bA).getD i ⟨#[]⟩=bA x:=by simp[List.getD,hx]
   simp only[Nat.mul_one,cB,hd];exact .str _
 ·cases h
theorem oj {l:Nat->Loc} {p q:PV} {u v:Value} (hp:RepP fi M w p u) (hq:RepP fi M w q v):RepAt fi M w l (.tup [p,q]) (.tuple #[u,v]):=by
 refine⟨[u,v],rfl,rfl,?_⟩;intro i x y hx hy
 match i,hx,hy with
 |0,hx,hy=>cases hx;cases hy;exact hp.repC
 |1,hx,hy=>cases hx;cases hy;exact hq.repC
theorem Bs (L:LaysC.n172 P ρ) (h15:∀w,fK fi w->∃te pe,w.cell? ⟨ρ.g 15,0,none⟩=some (.iface te pe)) (h16:∀w,fK fi w->∃te pe,w.cell? ⟨ρ.g 16,0,none⟩=some (.iface te pe)) (vs:List PV) (gh:List GObj) (r:PV) (gh':List GObj) (h:libAtoi vs gh=some (r,gh')):eq P fi (ρ.f 172) vs gh r gh':=by
 intro M w args hG hlb hown hlen hrep;unfold libAtoi at h;split at h
 ·rename_i s
  split at h
  case isFalse=>cases h
  rename_i hs;obtain⟨v,rfl⟩:=List.length_eq_one_iff.1 hlen;have hv:=hrep 0 _ _ rfl rfl;cases hv;obtain⟨t5,p5,hv5⟩:=h15 w hG.glAt;obtain⟨t6,p6,hv6⟩:=h16 w hG.glAt;split at h
  ·rename_i n hn
   cases h;refine (Any.strconv_Atoi_ok L s (by omega) n hn w).mono ?_;rintro e w' ⟨rfl,hw⟩;have key:GI fi M w' gh/\Kp M w M w':=by
    rcases hw with rfl|⟨t,rfl⟩
    ·exact⟨hG,Kp.refl _ _⟩
    ·exact GI.same hG rfl rfl rfl (by rw[Lib.bytesWorld_size];omega) (λj hj=>Lib.bytesWorld_at_old w _ t j hj)
   exact⟨_,M,rfl,key.1,hlb,rfl,oj (.int _ _) .nilI,key.2⟩
  ·rename_i hn
   cases h;refine (Any.strconv_Atoi_range L s hs hn _ w hv6 (.inr ⟨_,_,rfl⟩)).mono ?_;rintro e w' ⟨N,rfl,hN,hcell,hb⟩;have key:GI fi M w' gh/\Kp M w M w':=GI.same hG hb.os hb.tape hb.output hb.size hb.block;exact⟨_,M,rfl,key.1,hlb,rfl,oj (.int _ _) (.someI _ _),key.2⟩
  ·rename_i e1 e2
   cases h;refine (Any.strconv_Atoi_syntax L s hs (by rcases hq:Lib.atoiAll s.data.toList with v|_|_;exact (e1 v hq).elim;rfl;exact (e2 hq).elim) _ w hv5 (.inr ⟨_,_,rfl⟩)).mono ?_;rintro e w' ⟨N,rfl,hN,hcell,hb⟩;have key:GI fi M w' gh/\Kp M w M w':=GI.same hG hb.os hb.tape hb.output hb.size hb.block;exact⟨_,M,rfl,key.1,hlb,rfl,oj (.int _ _) (.someI _ _),key.2⟩
 ·cases h
end
end
end Go.Lw