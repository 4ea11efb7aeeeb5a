/-
  The texts that the proof stands on, part 18.
-/
import Derived.Test.YtmodipglnngghabDoorCnfHoldsQ
import Derived.Shelf.Strconv.Itoa3
import Derived.Shelf.Strconv.AtoiAll
import Derived.Shelf.Strings.Cut
import Derived.Shelf.Strings.Split
set_option linter.unusedVariables false
set_option linter.unusedSimpArgs false
set_option linter.unnecessarySimpa false

/-! Library functions of strings and numerals: strconv.Itoa, strconv.Atoi, strings.Cut, strings.Split (the shelf's contracts, told of the machine). -/
section
namespace Go.Lw
open Go Go.Sort Go.Shelf Go.Proofs
theorem j8t:∀(k u:Nat),u<10^k→0<k→digK k u=Lib.decDigits u
 |0,u,_,h=>absurd h (by decide)
 | k+1,u,hu,_=>by
  rw[digK,Lib.decDigits]
  by_cases h:u<10
  ·rw[if_pos h,dif_pos h]
  ·rw[if_neg h,dif_neg h]
   cases k with
   |zero=>simp at hu;omega
   |succ k=>rw[j8t (k+1) (u/10) (by rw[Nat.pow_succ] at hu;omega) (by omega)]
theorem jc5 {n:Int} (h0: -9223372036854775808≤n) (h1:n≤9223372036854775807):itoaK n=Lib.itoa n:=by
 unfold itoaK Lib.itoa
 rw[j8t 20 n.natAbs (by omega) (by decide),j8t 20 n.toNat (by omega) (by decide)]
section
variable {fi:FI} {P:Program} {ρ:Ren} {M:Mem} {w W:World} {gh:List GObj}
theorem GI.same (hG:GI fi M w gh) (hos:W.os=w.os) (htp:W.tape=w.tape) (hout:W.output=w.output) (hsz:w.heap.size≤W.heap.size) (hoth:∀k,k<w.heap.size→W.heap[k]?=w.heap[k]?):GI fi M W gh∧Kp M w M W:=by
 have g:Good M w M W (fun _=>False) (fun _=>False):=by
  refine⟨⟨fun _ _ h=>h,fun _ _ h=>h,fun bb k h=>?_,fun _ _=>⟨Nat.le_refl _,fun _=>rfl⟩⟩,hsz,fun _ _ h=>h,fun bb l h hl=>?_,fun bb hb _ h=>?_,fun _ _=>rfl⟩
  ·exact j9t (hoth bb (hG.immlt bb k h))
  ·exact⟨h,hoth bb (hG.ownlt bb l h),fun _ h=>h,id,id⟩
  ·exact⟨hoth bb hb,fun _ h=>h,h⟩
 have k:Kp M w M W:=⟨hos,htp,hout,hsz,g.ext,fun i hi _ _ ho=>hoth i hi,fun _ h=> .inl h,fun _ h=> .inl h,fun _ _ h=>h,fun _ _ h=> .inl h⟩
 refine⟨⟨fun t v h=>by simp[get] at h,rfl,hG.lbl,hG.gbl,hG.nodup,fun i cs blk h=>by simp at h,fun i o blk h1 h2=>?_,g.ext.gl hG.gl,fun bb j h=>Nat.lt_of_lt_of_le (hG.immlt bb j h) hsz,fun bb l h=>Nat.lt_of_lt_of_le (hG.ownlt bb l h) hsz,fun bb h=>Nat.lt_of_lt_of_le (hG.gblt bb h) hsz⟩,k⟩
 exact (hG.gh i o blk h1 h2).good g id (fun j h=>h)
def GlAt (fi:FI) (w:World):Prop:=∀x∈fi.gl,w.cell? ⟨x.1,x.2.1,none⟩=x.2.2
theorem GI.glAt (hG:GI fi M w gh):GlAt fi w:=fun x hx=>(hG.gl x hx).2
def tabGl (g:Nat) (kd:IntKind) (zs:List Int):List (Nat×Nat×Option Value):=(List.range (zs.length+1)).map fun i=>(g,i,zs[i]?.map (Value.int kd))
theorem jh0 {P:Program} {fi:FI} {w:World} {name:String} {g:Nat} {kd:IntKind} {zs:List Int} (hn:P.globalNamed name=some g) (h0:0<zs.length) (hs:∀x∈tabGl g kd zs,x∈fi.gl) (h:GlAt fi w):Lib.TabIs P w name kd zs:=by
 have hc:∀i,i≤zs.length→w.cell? ⟨g,i,none⟩=zs[i]?.map (Value.int kd):=fun i hi=>
  h (g,i,zs[i]?.map (Value.int kd)) (hs _ (List.mem_map.2 ⟨i,List.mem_range.2 (by omega),rfl⟩))
 unfold Lib.TabIs World.var?
 rw[hn,Option.bind_some]
 have hc0:=hc 0 (by omega)
 rw[List.getElem?_eq_getElem h0] at hc0
 unfold World.cell? at hc hc0
 simp only at hc hc0
 split at hc0
 ·rename_i cs e fr hb
  simp only[hb,Option.isSome_none,Bool.false_eq_true,if_false] at hc ⊢
  congr 1
  apply Array.ext_getElem?
  intro i
  by_cases hi:i≤zs.length
  ·rw[hc i hi];simp
  ·have hz:=hc zs.length (Nat.le_refl _)
   rw[List.getElem?_eq_none (Nat.le_refl _)] at hz
   have hsz:cs.size≤zs.length:=by
    rcases Nat.lt_or_ge zs.length cs.size with h|h
    ·rw[Array.getElem?_eq_getElem h] at hz;cases hz
    ·exact h
   rw[Array.getElem?_eq_none (by omega),Array.getElem?_eq_none (by simp;omega)]
 ·simp at hc0
theorem jh1 (L : LaysM.n171 P ρ) (hfi : ∀ w, GlAt fi w → Lib.TabIs P w "internal/strconv.uint64pow10" .u64 Lib.pow10Tab) (vs : List PV) (gh : List GObj) (r : PV) (gh' : List GObj) (h : libItoa vs gh = some (r, gh')) : CallOk P fi (ρ.f 171) vs gh r gh' := by
 intro M w args hG hlb hown hlen hrep
 unfold libItoa at h
 split at h
 ·rename_i n
  split at h
  case isFalse=>cases h
  rename_i hc
  cases h
  obtain⟨v,rfl⟩:=List.length_eq_one_iff.1 hlen
  have hv:=hrep 0 _ _ rfl rfl
  cases hv
  refine (Any.strconv_Itoa L n hc.1 hc.2 w (hfi w hG.glAt)).mono ?_
  rintro e w' ⟨rfl,k,os,rfl⟩
  obtain⟨h1,h2⟩:=GI.same (W:=grow (w.drewN k) os) hG rfl rfl rfl (by simp[grow,World.drewN]) (fun j hj=>by
   show ((w.drewN k).heap++os)[j]?=w.heap[j]?
   have e:(w.drewN k).heap=w.heap:=rfl
   rw[e,Array.getElem?_append_left hj])
  rw[jc5 hc.1 hc.2]
  exact⟨_,M,rfl,h1,hlb,rfl,(RepP.str _).repE.repAt,h2⟩
 ·cases h
theorem jh2 {l:Nat→Loc} {p q:PV} {u v:Value} (hp:RepP fi M w p u) (hq:RepP fi M w q v):RepAt fi M w l (.tup [p,q]) (.tuple #[u,v]):=by
 refine⟨[u,v],rfl,rfl,?_⟩
 intro i x y hx hy
 match i,hx,hy with
 |0,hx,hy=>cases hx;cases hy;exact hp.repC
 |1,hx,hy=>cases hx;cases hy;exact hq.repC
end
end Go.Lw
end
