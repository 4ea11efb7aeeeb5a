/-
  The texts that the proof stands on, part 16.
-/
import Derived.Test.YtmodipglnngghacDoorTextBackO
import Derived.Lib.AtoiAllCases
set_option linter.unusedVariables false
set_option linter.unusedSimpArgs false
set_option linter.unnecessarySimpa false

/-! Numerals: the program's number of digits and the document's Undigit are one. -/
section
namespace Go.Lw
open Go
theorem jh4:∀{a b:Nat},a≤b→(10:Int)^a≤10^b:=by
 intro a b h
 have:=Nat.pow_le_pow_right (n:=10) (by decide) h
 have e:∀k:Nat,((10^k:Nat):Int)=(10:Int)^k:=fun k=>by simp
 rw[←e,←e]
 exact Int.ofNat_le.2 this
theorem jh5:∀(j k u:Nat),u<10^(j+1)→u<10^(k+1)→digK (j+1) u=digK (k+1) u
 |0,k,u,hj,_=>by
  have h:u<10:=by simpa using hj
  rw[digK,if_pos h,digK,if_pos h]
 | j+1,k,u,hj,hk=>by
  rw[digK]
  conv=>rhs;rw[digK]
  by_cases h:u<10
  ·rw[if_pos h,if_pos h]
  ·rw[if_neg h,if_neg h]
   cases k with
   |zero=>simp at hk;omega
   |succ k=>
    rw[jh5 j k (u/10) (by rw[Nat.pow_succ] at hj;omega) (by rw[Nat.pow_succ] at hk;omega)]
theorem jej:∀(l:List UInt8) (n:Int) (b:UInt8),0≤n→undF n (l++[b])=if undF n l= -1 then -1 else if b.toNat<48∨57<b.toNat then -1 else 10*undF n l+b.toNat-48
 |[],n,b,h=>by
  have hn:¬(undF n []= -1):=by simp only[undF];omega
  rw[if_neg hn]
  simp only[List.nil_append,undF]
 | c::l,n,b,h=>by
  rw[List.cons_append]
  by_cases hc:c.toNat<48∨57<c.toNat
  ·rw[jca hc,jca hc,if_pos rfl]
  ·rw[jcb hc,jcb hc]
   exact jej l _ b (by omega)
theorem jh6:∀(k u:Nat),u<10^(k+1)→undF 0 (digK (k+1) u)=(u:Int)
 | k,u,h=>by
  rw[digK]
  by_cases hu:u<10
  ·rw[if_pos hu]
   have hb:(UInt8.ofNat (48+u)).toNat=48+u:=by simp;omega
   rw[jcb (by omega)]
   simp only[undF]
   omega
  ·rw[if_neg hu]
   cases k with
   |zero=>simp at h;omega
   |succ k=>
    have ih:=jh6 k (u/10) (by rw[Nat.pow_succ] at h;omega)
    have hb:(UInt8.ofNat (48+u%10)).toNat=48+u%10:=by simp;omega
    rw[jej _ _ _ (by omega),ih,if_neg (by omega),if_neg (by omega)]
    omega
theorem jmw:∀(k u:Nat),digK (k+1) u≠[]:=by
 intro k u
 rw[digK]
 split<;>simp
theorem jh7:∀(k u:Nat),0<u→u<10^(k+1)→∃b r,digK (k+1) u=b::r∧b≠48
 | k,u,h0,h=>by
  rw[digK]
  by_cases hu:u<10
  ·rw[if_pos hu]
   refine⟨_,_,rfl,fun e=>?_⟩
   have hb:(UInt8.ofNat (48+u)).toNat=48+u:=by simp;omega
   rw[e] at hb
   simp at hb
   omega
  ·rw[if_neg hu]
   cases k with
   |zero=>simp at h;omega
   |succ k=>
    obtain⟨b,r,e,hb⟩:=jh7 k (u/10) (by omega) (by rw[Nat.pow_succ] at h;omega)
    exact⟨b,r++_,by rw[e];rfl,hb⟩
theorem jbv {n:Int} (h:0≤n):itoaK n=digK 20 n.toNat:=by unfold itoaK;rw[if_neg (by omega)]
theorem jh8 {n:Int} (h0:0≤n) (h1:n<10000000000) (hl:(itoaK n).length≤9):undK (itoaK n)=n:=by
 rw[jbv h0] at *
 have hp:n.toNat<10^20:=Nat.lt_of_lt_of_le (by omega:n.toNat<10000000000) (by decide)
 have hu:=jh6 19 n.toNat hp
 unfold undK
 rw[if_neg,hu]
 ·omega
 ·rintro (h|h|⟨h,h2⟩)
  ·exact jmw 19 _ h
  ·omega
  ·by_cases hz:n.toNat=0
   ·rw[hz] at h;simp[digK] at h
   ·obtain⟨b,r,e,hb⟩:=jh7 19 n.toNat (by omega) hp
    rw[e] at h2
    simp at h2
    exact hb h2
theorem jh9:∀(m:Nat) (l:List UInt8),l.length=m+1→m≤18→0≤undF 0 l→(m=0∨l.head?≠some 48)→digK 20 (undF 0 l).toNat=l∧undF 0 l<10^(m+1)∧(l.head?≠some 48→0<undF 0 l)
 | 0, l,hl,_,h0,_=>by
  match l,hl with
  | [b],_=>
   by_cases hb:b.toNat<48∨57<b.toNat
   ·rw[jca hb] at h0;omega
   ·rw[jcb hb]
    simp only[undF]
    have he:(10*0+(b.toNat:Int)-48).toNat=b.toNat-48:=by omega
    refine⟨?_,by omega,fun hh=>?_⟩
    ·rw[he,digK,if_pos (by omega)]
     have:UInt8.ofNat (48+(b.toNat-48))=b:=by
      apply UInt8.toNat_inj.1
      simp;omega
     rw[this]
    ·have:b.toNat≠48:=fun e=>hh (by simp;apply UInt8.toNat_inj.1;simpa using e)
     omega
 | m+1,l,hl,hm,h0,hh=>by
  have hh:l.head?≠some 48:=hh.resolve_left (by omega)
  obtain⟨q,b,rfl⟩:∃q b,l=q++[b]:=⟨l.dropLast,l.getLast (by intro e;simp[e] at hl),(List.dropLast_concat_getLast _).symm⟩
  have hq:q.length=m+1:=by simp at hl;omega
  have hqh:q.head?≠some 48:=by
   match q,hq with
   |c::q,_=>simpa using hh
  rw[jej _ _ _ (by omega)] at h0 ⊢
  split at h0
  ·omega
  rename_i hq1
  split at h0
  ·omega
  rename_i hb
  rw[if_neg hq1,if_neg hb]
  have hq0:0≤undF 0 q:=by
   have:=jei (r:=q) (n:=0) (by omega) hq1
   simpa using this
  obtain⟨e1,e2,e3⟩:=jh9 m q hq (by omega) hq0 (.inr hqh)
  have e3:=e3 hqh
  generalize undF 0 q=v at *
  have hv:(10*v+(b.toNat:Int)-48).toNat=10*v.toNat+(b.toNat-48):=by omega
  have hpow:(10:Int)^(m+1+1)=10*10^(m+1):=by rw[Int.pow_succ];omega
  refine⟨?_,by rw[hpow];omega,fun _=>by omega⟩
  rw[hv,digK,if_neg (by omega)]
  have hd:(10*v.toNat+(b.toNat-48))/10=v.toNat:=by omega
  have hmod:(10*v.toNat+(b.toNat-48))%10=b.toNat-48:=by omega
  have hsm:v.toNat<10^(18+1):=by
   have h3:(10:Int)^(m+1)≤10^18:=jh4 (by omega)
   have h4:(10:Int)^18=1000000000000000000:=by decide
   have h5:(10:Nat)^(18+1)=10000000000000000000:=by decide
   omega
  have hf:=jh5 18 19 v.toNat hsm (Nat.lt_trans hsm (by decide))
  rw[hd,hmod,hf,e1]
  have:UInt8.ofNat (48+(b.toNat-48))=b:=by
   apply UInt8.toNat_inj.1
   simp;omega
  rw[this]
theorem jd3 {x:List UInt8} (h0:0≤undK x):x=itoaK (undK x)∧undK x<1000000000∧x.length≤9:=by
 unfold undK at h0 ⊢
 split at h0
 ·omega
 rename_i hc
 rw[if_neg hc]
 simp only[not_or,not_and] at hc
 obtain⟨c1,c2,c3⟩:=hc
 have hl:x.length≠0:=fun e=>c1 (List.eq_nil_of_length_eq_zero e)
 obtain⟨m,hm⟩:∃m,x.length=m+1:=⟨x.length-1,by omega⟩
 obtain⟨e1,e2,-⟩:=jh9 m x hm (by omega) h0 (by
  by_cases h:m=0
  ·exact .inl h
  ·exact .inr (c3 (by omega)))
 refine⟨by rw[jbv h0,e1],?_,by omega⟩
 have h3:(10:Int)^(m+1)≤10^9:=jh4 (by omega)
 have h4:(10:Int)^9=1000000000:=by decide
 omega
theorem jha:∀(l:List UInt8) (acc:Nat),acc<1000000000000000000→∀v,0≤v→undF (acc:Int) l=v→v<1000000000000000000→Lib.parseUint10 acc l= .ok v.toNat
 |[],acc,_,v,h0,h,_=>by
  simp only[undF] at h
  simp only[Lib.parseUint10]
  congr
  omega
 | c::r,acc,ha,v,h0,h,hv=>by
  by_cases hc:c.toNat<48∨57<c.toNat
  ·rw[jca hc] at h;omega
  ·rw[jcb hc] at h
   have e:(10*(acc:Int)+c.toNat-48)=((acc*10+(c.toNat-48):Nat):Int):=by omega
   rw[e] at h
   have hge:=jei (r:=r) (n:=((acc*10+(c.toNat-48):Nat):Int)) (by omega) (by omega)
   have h1:(1:Int)≤10^r.length:=Int.pow_pos (by decide)
   have h2:((acc*10+(c.toNat-48):Nat):Int)*1≤((acc*10+(c.toNat-48):Nat):Int)*10^r.length:=Int.mul_le_mul_of_nonneg_left h1 (by omega)
   have hlt:acc*10+(c.toNat-48)<1000000000000000000:=by omega
   rw[Lib.parseUint10,if_pos (by omega),if_neg (by omega),if_neg (by omega)]
   exact jha r _ hlt v h0 h hv
theorem jd4 {x:List UInt8} (h0:0≤undK x):Lib.atoiAll x= .ok (undK x):=by
 obtain⟨-,hs,hl⟩:=jd3 h0
 unfold undK at *
 split at h0
 ·omega
 rename_i hc
 rw[if_neg hc] at hs ⊢
 simp only[not_or,not_and] at hc
 obtain⟨c1,-,-⟩:=hc
 match x,c1 with
 |c::r,_=>
  have hd:¬(c.toNat<48∨57<c.toNat):=fun hb=>by rw[jca hb] at h0;omega
  have hp:=jha (c::r) 0 (by decide) (undF 0 (c::r)) h0 rfl (by omega)
  generalize undF 0 (c::r)=v at *
  unfold Lib.atoiAll
  simp only
  rw[if_neg (by omega)]
  unfold Lib.parseMag
  rw[if_neg (by simp),hp]
  simp only
  rw[if_neg (by omega),if_neg (by omega),if_neg (by omega)]
  congr
  omega
theorem jhb:∀(k u:Nat),u<10^(k+1)→u<10^(digK (k+1) u).length
 | k,u,h=>by
  rw[digK]
  by_cases hu:u<10
  ·rw[if_pos hu];simpa using hu
  ·rw[if_neg hu]
   cases k with
   |zero=>simp at h;omega
   |succ k=>
    have ih:=jhb k (u/10) (by rw[Nat.pow_succ] at h;omega)
    rw[List.length_append,List.length_singleton,Nat.pow_succ]
    omega
theorem jmx {x:List UInt8} {v:Int} (h0:0≤v) (h1:v≤9223372036854775807) (hl:x.length≤9) (hx:itoaK v=x):undK x=v:=by
 subst hx
 have hd:=jhb 19 v.toNat (Nat.lt_of_le_of_lt (by omega:v.toNat≤9223372036854775807) (by decide))
 rw[←jbv h0] at hd
 have hp:10^(itoaK v).length≤10^9:=Nat.pow_le_pow_right (by decide) hl
 have h9:(10:Nat)^9=1000000000:=by decide
 exact jh8 h0 (by omega) hl
end Go.Lw
end

/-! Models out of texts: the program's numbers, and its search for a word. -/
section
namespace Go.Lw
open Go
def numsK:List (List UInt8)→Option (List Int)
 |[]=>some []
 |x::r=>if 0≤undK x then (numsK r).map (undK x:: ·) else none
theorem jhx:∀{l:List (List UInt8)} {v:List Int},numsK l=some v→v.length=l.length
 |[],v,h=>by cases h;rfl
 | x::r,v,h=>by
  rw[numsK] at h
  split at h
  ·simp only[Option.map_eq_some_iff] at h
   obtain⟨u,hu,rfl⟩:=h
   simp[jhx hu]
  ·cases h
def idxF (w:List UInt8):List (List UInt8)→Int→Int
 |[],_=> -1
 |x::l,i=>if w=x then i else idxF w l (i+1)
section
variable {gh:List GObj}
theorem jhy {x:List UInt8} (hx:x.length≤3000000):∃v:Int,callL pg 365 [.str (bA x)] gh=some (.tup [I v,B (decide (0≤undK x))],gh)∧(0≤undK x→v=undK x):=by
 have hA:=fun G=>jms (gh:=G) hx
 have hz:((bA x).size:Nat)=x.length:=jbd x
 have hne:(ByteArray.toList (bA x))=(ByteArray.toList (bA x)):=rfl
 cases ha:Lib.atoiAll x with
 | ok v=>
  rw[ha] at hA
  simp only at hA
  have hr:=jmr ha
  have hi:=fun G=>jeh (gh:=G) (n:=v) hr.1 hr.2
  refine⟨v,?_,fun h=>?_⟩
  ·have key:(decide (0≤v)&&(decide (x.length≤9)&&decide (itoaK v=x)))=decide (0≤undK x):=by
    by_cases h0:0≤undK x
    ·have h1:=jd4 h0
     rw[ha] at h1
     injection h1 with h1
     obtain⟨h2,h3,h4⟩:=jd3 h0
     rw[decide_eq_true h0,decide_eq_true (by omega),decide_eq_true h4,decide_eq_true (by rw[h1];exact h2.symm)]
     rfl
    ·rw[decide_eq_false h0]
     by_cases c1:0≤v
     ·by_cases c2:x.length≤9
      ·by_cases c3:itoaK v=x
       ·exact absurd (by rw[jmx c1 hr.2 c2 c3];exact c1) h0
       ·rw[decide_eq_false c3];simp
      ·rw[decide_eq_false c2];simp
     ·rw[decide_eq_false c1];rfl
   refine jaf (fn:=qw) (s:=⟨[(2,I v),(3,B (decide (0≤undK x)))],[],gh⟩) rfl rfl (q32_ ?h1) ?r1
   case h1=>
    rw[←key]
    have he:(itoaK v==x)=decide (itoaK v=x):=by by_cases h:itoaK v=x<;>simp[h]
    generalize itoaK v=y at *
    simp only[q32]
    simp[hA,hz]
    by_cases c1:0≤v
    ·by_cases c2:x.length≤9
     ·simp[c1,c2,show ((x.length:Nat):Int)≤9 by omega,hi,he]
     ·simp[c1,c2,show ¬((x.length:Nat):Int)≤9 by omega]
    ·simp[c1]
   case r1=>simp[finish,results,qw,resOfs,resOf,resOk]
  ·have h1:=jd4 h
   rw[ha] at h1
   injection h1
 | range=>
  rw[ha] at hA
  simp only at hA
  have h0:¬0≤undK x:=fun h=>by rw[jd4 h] at ha;cases ha
  refine⟨Lib.atoiSat x,?_,fun h=>absurd h h0⟩
  rw[decide_eq_false h0]
  refine jaf (fn:=qw) (s:=⟨[(2,I (Lib.atoiSat x)),(3,B false)],[],gh⟩) rfl rfl (q32_ ?h3) ?r3
  case h3=>
   simp only[q32]
   simp[hA]
  case r3=>simp[finish,results,qw,resOfs,resOf,resOk]
 | _ =>
  rw[ha] at hA
  simp only at hA
  have h0:¬0≤undK x:=fun h=>by rw[jd4 h] at ha;cases ha
  refine⟨0,?_,fun h=>absurd h h0⟩
  rw[decide_eq_false h0]
  refine jaf (fn:=qw) (s:=⟨[(2,I 0),(3,B false)],[],gh⟩) rfl rfl (q32_ ?h2) ?r2
  case h2=>
   simp only[q32]
   simp[hA]
  case r2=>simp[finish,results,qw,resOfs,resOf,resOk]
theorem jhz {many:Int} {xs:List (List UInt8)} (hs:∀x∈xs,x.length≤3000000) (hl:xs.length≤3000000):∀(k i:Nat) (acc:List Int),i+k=xs.length→acc.length+k≤3000000→
  runL pg q4q ⟨[(1,I many),(6,.sl true 1 (acc.map I)),(11,.sl false 1 (SL8 xs)),(12,I xs.length),(13,I (i:Int))],[],gh⟩=
   match numsK (xs.drop i) with
   |some v=>some (.normal,⟨[(1,I many),(6,.sl true 1 ((acc++v).map I))],[],gh⟩)
   |none=>some (.ret,⟨[(4,.sl true 1 []),(5,B false)],[],gh⟩)
 |0,i,acc,h,_=>by
  have hlt:¬(i:Int)<(xs.length:Int):=by omega
  rw[List.drop_eq_nil_of_le (by omega),numsK]
  refine (jat (s1:=?s1) (q33_ ?h1)).trans ?r1
  case h1=>simp only[q33,decide_eq_false hlt,jaw];rfl
  case r1=>simp[keep,stays]
 | k+1,i,acc,h,ha=>by
  have hlt:i<xs.length:=by omega
  have hltI:(i:Int)<(xs.length:Int):=by omega
  have e2:IntKind.i64.wrap ((i:Int)+1)=((i+1:Nat):Int):=by rw[jas (by omega) (by omega)];omega
  have hx:(SL8 xs)[i]?=some (.str (bA xs[i])):=by simp[List.getElem?_eq_getElem hlt]
  have hr:=hs _ (List.getElem_mem hlt)
  rw[List.drop_eq_getElem_cons hlt,numsK]
  generalize xs[i]=x at *
  obtain⟨v,hv,hv2⟩:=jhy (gh:=gh) hr
  have hD:=decide_eq_true hltI
  by_cases h0:0≤undK x
  ·obtain rfl:=hv2 h0
   rw[if_pos h0]
   rw[decide_eq_true h0] at hv
   have hrec:=jhz (many:=many) hs hl k (i+1) (acc++[undK x]) (by omega) (by simp;omega)
   generalize undK x=u at *
   have hfit:(acc.length+1)*8≤maxBytes:=Nat.le_trans (by omega:(acc.length+1)*8≤24000000) (by decide)
   have heq:(match (numsK (xs.drop (i+1))).map (u:: ·) with
    |some v=>some (IExit.normal,(⟨[(1,I many),(6,.sl true 1 ((acc++v).map I))],[],gh⟩:St))
    |none=>some (.ret,⟨[(4,.sl true 1 []),(5,B false)],[],gh⟩))=(match numsK (xs.drop (i+1)) with
    |some v=>some (IExit.normal,(⟨[(1,I many),(6,.sl true 1 (((acc++[u])++v).map I))],[],gh⟩:St))
    |none=>some (.ret,⟨[(4,.sl true 1 []),(5,B false)],[],gh⟩)):=by
    cases numsK (xs.drop (i+1)) with
    |none=>rfl
    |some v=>simp
   rw[heq]
   generalize SL8 xs=XS at *
   refine jai (q33_ (s:=⟨[(1,I many),(6,.sl true 1 ((acc++[u]).map I)),(11,.sl false 1 XS),(12,I xs.length),(13,I ((i+1:Nat):Int))],[],gh⟩) ?h2) hrec
   case h2=>
    generalize ((i+1:Nat):Int)=T at *
    generalize (xs.length:Int)=N at *
    have hml:(acc.map I).length=acc.length:=List.length_map _
    rw[←hml] at hfit
    rw[List.map_append]
    generalize acc.map I=A at *
    simp only[q33,hD,jay]
    simp[hx,hv,apX,hfit,e2]
  ·rw[if_neg h0]
   rw[decide_eq_false h0] at hv
   generalize SL8 xs=XS at *
   refine (lp_ret (q33_ (s:=⟨[(4,.sl true 1 []),(5,B false)],[],gh⟩) ?h3)).trans ?r3
   case h3=>
    generalize (xs.length:Int)=N at *
    generalize acc.map I=A at *
    simp only[q33,hD,jay]
    simp[hx,hv]
   case r3=>rfl
theorem ji0 {many:Int} {xs:List (List UInt8)} (hs:∀x∈xs,x.length≤3000000) (hl:xs.length≤3000000) :
  callL pg 362 [.sl false 1 (SL8 xs),I many] gh=some (.tup [LI ((numsK xs).getD []),B (match numsK xs with|some v=>decide ((v.length:Int)=many)|none=>false)],gh):=by
 have h:=jhz (gh:=gh) (many:=many) hs hl xs.length 0 [] (by omega) (by simp;omega)
 rw[List.drop_zero] at h
 have hxl:(SL8 xs).length=xs.length:=List.length_map _
 rw[←hxl] at h
 generalize SL8 xs=XS at *
 simp only[Int.natCast_zero,List.map_nil] at h
 cases hn:numsK xs with
 |none=>
  rw[hn] at h
  simp only at h
  refine jaf (fn:=q1r) (s:=⟨[(4,.sl true 1 []),(5,B false)],[],gh⟩) rfl rfl (q5n_ ?h1) ?r1
  case h1=>simp[q5n,h]
  case r1=>simp[finish,results,q1r,resOfs,resOf,resOk]
 | some v=>
  rw[hn] at h
  simp only[List.nil_append] at h
  have hvl:=jhx hn
  have hk:runL pg q2l ⟨[(1,I many),(6,.sl true 1 (v.map I))],[],gh⟩=some (.ret,⟨[(4,.sl false 1 (v.map I)),(5,B (decide ((v.length:Int)=many)))],[],gh⟩):=by
   refine q9d_ ?_
   have hml:(v.map I).length=v.length:=List.length_map _
   have e:((v.length:Int)==many)=decide ((v.length:Int)=many):=rfl
   rw[←hml] at e ⊢
   generalize v.map I=V at *
   simp[q9d,e]
  refine jaf (fn:=q1r) (s:=⟨[(4,.sl false 1 (v.map I)),(5,B (decide ((v.length:Int)=many)))],[],gh⟩) rfl rfl (q5n_ ?h2) ?r2
  case h2=>simp[q5n,h,hk]
  case r2=>simp[finish,results,q1r,resOfs,resOf,resOk,jeu]
theorem ji1 {w:List UInt8} {xs:List (List UInt8)} {o:Bool} (hl:xs.length≤3000000):∀(k i:Nat),i+k=xs.length→
  runL pg q3i ⟨[(0,.sl false 1 (SL8 xs)),(1,.str (bA w)),(7,I xs.length),(8,I (i:Int))],[],gh⟩=
   if idxF w (xs.drop i) i= -1 then some (.normal,⟨[],[],gh⟩) else some (.ret,⟨[(4,I (idxF w (xs.drop i) i))],[],gh⟩)
 |0,i,h=>by
  have hlt:¬(i:Int)<(xs.length:Int):=by omega
  rw[List.drop_eq_nil_of_le (by omega),idxF,if_pos rfl]
  refine (jat (s1:=?s1) (q34_ ?h1)).trans ?r1
  case h1=>simp only[q34,decide_eq_false hlt,jaw];rfl
  case r1=>simp[keep]
 | k+1,i,h=>by
  have hlt:i<xs.length:=by omega
  have hltI:(i:Int)<(xs.length:Int):=by omega
  have e2:IntKind.i64.wrap ((i:Int)+1)=((i+1:Nat):Int):=by rw[jas (by omega) (by omega)];omega
  have hx:(SL8 xs)[i]?=some (.str (bA xs[i])):=by simp[List.getElem?_eq_getElem hlt]
  rw[List.drop_eq_getElem_cons hlt,idxF]
  generalize xs[i]=x at *
  have hD:=decide_eq_true hltI
  by_cases hw:w=x
  ·rw[if_pos hw,if_neg (by omega)]
   have he:(w==x)=true:=by simp[hw]
   generalize SL8 xs=XS at *
   refine lp_ret (q34_ (s:=⟨[(4,I (i:Int))],[],gh⟩) ?h3)
   case h3=>
    generalize (xs.length:Int)=N at *
    simp only[q34,hD,jay]
    simp[hx,he]
  ·rw[if_neg hw]
   have he:(w==x)=false:=by simp[hw]
   have hrec:=ji1 (w:=w) (o:=o) hl k (i+1) (by omega)
   rw[show ((i:Int)+1)=((i+1:Nat):Int) by omega]
   generalize SL8 xs=XS at *
   refine jai (q34_ (s:=⟨[(0,.sl false 1 XS),(1,.str (bA w)),(7,I xs.length),(8,I ((i+1:Nat):Int))],[],gh⟩) ?h2) hrec
   case h2=>
    generalize ((i+1:Nat):Int)=T at *
    generalize (xs.length:Int)=N at *
    simp only[q34,hD,jay]
    simp[hx,he,e2]
theorem ji2 {w:List UInt8} {xs:List (List UInt8)} (hl:xs.length≤3000000):callL pg 360 [.sl false 1 (SL8 xs),.str (bA w)] gh=some (I (idxF w xs 0),gh):=by
 have h:=ji1 (gh:=gh) (w:=w) (o:=false) hl xs.length 0 (by omega)
 rw[List.drop_zero] at h
 have hxl:(SL8 xs).length=xs.length:=List.length_map _
 rw[←hxl] at h
 generalize SL8 xs=XS at *
 simp only[Int.natCast_zero] at h
 by_cases hi:idxF w xs 0= -1
 ·rw[if_pos hi] at h
  rw[hi]
  have hk:runL pg q26 ⟨[],[],gh⟩=some (.ret,⟨[(4,I (-1))],[],gh⟩):=qa9_ rfl
  refine jaf (fn:=q1f) (s:=⟨[(4,I (-1))],[],gh⟩) rfl rfl (q5p_ ?h1) ?r1
  case h1=>simp[q5p,h,hk]
  case r1=>simp[finish,results,q1f,resOfs,resOf,resOk]
 ·rw[if_neg hi] at h
  refine jaf (fn:=q1f) (s:=⟨[(4,I (idxF w xs 0))],[],gh⟩) rfl rfl (q5p_ ?h2) ?r2
  case h2=>simp[q5p,h]
  case r2=>simp[finish,results,q1f,resOfs,resOf,resOk]
end
end Go.Lw
end

/-! Models out of texts: the program's reader of a node's line. -/
section
namespace Go.Lw
open Go
def rdrO (m:Md) (r:Int):GObj:= .cells [.sl true 6 (m.nodes.map nodeV),.sl true 2 (m.inits.map andV),.sl true 2 (m.nexts.map andV),.sl true 1 (m.bads.map I),.sl true 1 (m.holds.map I),I r]
def Gr (gh:List GObj) (m:Md) (r:Int) (J:List GObj):List GObj:=gh++rdrO m r::J
def kindOf (w:List UInt8):Int:=idxF w (wordsL.drop 1) 0+1
def wantK (k:Int):Int:=1+takesOf k+(if k=1∨k=21 then 1 else 0)
def mkNd (k:Int) (v:List Int):Nd:=⟨k,v.getD 0 0,if 0<takesOf k then v.getD 1 0 else 0,if 1<takesOf k then v.getD 2 0 else 0,if 2<takesOf k then v.getD 3 0 else 0,if k=1∨k=21 then v.getD (wantK k-1).toNat 0 else 0⟩
def nodeK (m:Md) (r:Int):List (List UInt8)→Option Nd
 | w::u::rest=>
  if undK w=(m.nodes.length:Int)∧r≤0∧kindOf u≠0 then
   match numsK rest with
   |some v=>if (v.length:Int)=wantK (kindOf u) then some (mkNd (kindOf u) v) else none
   |none=>none
  else none
 |_=>none
theorem jcg (m:Md) (r:Int) (w u:List UInt8) (rest:List (List UInt8)):nodeK m r (w::u::rest)=if undK w=(m.nodes.length:Int)∧r≤0∧kindOf u≠0 then
   match numsK rest with
   |some v=>if (v.length:Int)=wantK (kindOf u) then some (mkNd (kindOf u) v) else none
   |none=>none
  else none:=rfl
theorem jev (w:List UInt8):∀(l:List (List UInt8)) (i:Int),idxF w l i= -1∨(i≤idxF w l i∧idxF w l i<i+l.length)
 |[],i=> .inl rfl
 | x::l,i=>by
  rw[idxF]
  split
  ·right;simp;omega
  ·rcases jev w l (i+1) with h|h
   ·exact .inl h
   ·right;simp;omega
theorem jnt (w:List UInt8):0≤kindOf w∧kindOf w<24:=by
 have h:=jev w (wordsL.drop 1) 0
 have e:(wordsL.drop 1).length=23:=rfl
 unfold kindOf
 omega
section
variable {gh J:List GObj} {m:Md} {r:Int}
theorem Gr_get:(Gr gh m r J)[gh.length]?=some (rdrO m r):=by simp[Gr]
abbrev nst (g:Nat) (L:Nat) (k many t:Int) (i:Nat) (v:List Int) (G:List GObj) (cs:List PV):St:=
 ⟨[(0,.ptr true g 0),(7,I k),(8,I many),(9,.sl false 1 (v.map I)),(10,.ptr true L 0),(11,.sl true 1 [.ptr true L 2,.ptr true L 3,.ptr true L 4]),(79,I t),(80,I (i:Int))],[],G++[.cells cs]⟩
theorem jda {g:Nat} {k many t:Int} {i:Nat} {v:List Int} {G:List GObj} {cs:List PV} (h:¬(i:Int)<t) :
  runL pg q17 (nst g G.length k many t i v G cs)=some (.normal,⟨[(0,.ptr true g 0),(7,I k),(8,I many),(9,.sl false 1 (v.map I)),(10,.ptr true G.length 0)],[],G++[.cells cs]⟩):=by
 refine (jat (s1:=?s1) (q5q_ ?h1)).trans ?r1
 case h1=>simp only[q5q,decide_eq_false h,jaw];rfl
 case r1=>simp[keep,stays]
theorem jbx {g:Nat} {k many t w a b c n:Int} {i:Nat} {v:List Int} {G:List GObj} {s:Option (IExit×St)} (h:(i:Int)<t) (hi:i<3) (hv:i+1<v.length)
  (hr:runL pg q17 (nst g G.length k many t (i+1) v G [I k,I w,if i=0 then I v[i+1] else I a,if i=1 then I v[i+1] else I b,if i=2 then I v[i+1] else I c,I n])=s) (hs:s.isSome=true) :
  runL pg q17 (nst g G.length k many t i v G [I k,I w,I a,I b,I c,I n])=s:=by
 obtain⟨s,rfl⟩:=Option.isSome_iff_exists.1 hs
 have hD:=decide_eq_true h
 have hg:(v.map I)[i+1]?=some (I v[i+1]):=by simp[List.getElem?_eq_getElem hv]
 have e1:IntKind.i64.wrap (1+(i:Int))=((i+1:Nat):Int):=by rw[jas (by omega) (by omega)];omega
 have e2:IntKind.i64.wrap ((i:Int)+1)=((i+1:Nat):Int):=by rw[jas (by omega) (by omega)];omega
 refine jai (q5q_ ?h2) hr
 case h2=>
  unfold nst
  have hG:∀x:PV,(G++[GObj.cells [I k,I w,I a,I b,I c,I n]])[G.length]?=some (.cells [I k,I w,I a,I b,I c,I n]):=fun _=>by simp
  have hS:∀y:GObj,(G++[GObj.cells [I k,I w,I a,I b,I c,I n]]).set G.length y=G++[y]:=fun _=>by simp
  generalize v[i+1]=z at *
  generalize v.map I=V at *
  have hG:=hG (I 0)
  generalize G++[GObj.cells [I k,I w,I a,I b,I c,I n]]=G1 at *
  simp only[q5q,hD,jay,e1,e2]
  have h3:i=0∨i=1∨i=2:=by omega
  rcases h3 with rfl|rfl|rfl
  ·simp[hg,hG,hS,spliceAt,PV.cells,unG]
  ·simp[hg,hG,hS,spliceAt,PV.cells,unG]
  ·simp[hg,hG,hS,spliceAt,PV.cells,unG]
theorem nd_run {g:Nat} {k many w:Int} {v:List Int} {G:List GObj} (hv:takesOf k+1≤(v.length:Int)) :
  runL pg q17 (nst g G.length k many (takesOf k) 0 v G [I k,I w,I 0,I 0,I 0,I 0])=some (.normal,⟨[(0,.ptr true g 0),(7,I k),(8,I many),(9,.sl false 1 (v.map I)),(10,.ptr true G.length 0)],[],G++[.cells [I k,I w,I (if 0<takesOf k then v.getD 1 0 else 0),I (if 1<takesOf k then v.getD 2 0 else 0),I (if 2<takesOf k then v.getD 3 0 else 0),I 0]]⟩):=by
 have ht:=jb5 k
 generalize takesOf k=t at *
 have hd:∀(j:Nat) (h:j<v.length),v.getD j 0=v[j]:=fun j h=>by rw[List.getD_eq_getElem?_getD,List.getElem?_eq_getElem h];rfl
 rcases ht with rfl|rfl|rfl|rfl
 ·exact jda (by omega)
 ·have h1:1<v.length:=by omega
  rw[hd 1 h1]
  exact jbx (i:=0) (by omega) (by omega) h1 (by simpa using jda (g:=g) (k:=k) (many:=many) (t:=1) (i:=1) (v:=v) (G:=G) (cs:=[I k,I w,I v[1],I 0,I 0,I 0]) (by omega)) rfl
 ·have h1:1<v.length:=by omega
  have h2:2<v.length:=by omega
  rw[hd 1 h1,hd 2 h2]
  exact jbx (i:=0) (by omega) (by omega) h1 (by
   simpa using jbx (g:=g) (k:=k) (many:=many) (t:=2) (w:=w) (a:=v[1]) (b:=0) (c:=0) (n:=0) (i:=1) (v:=v) (G:=G) (by omega) (by omega) h2 (by
    simpa using jda (g:=g) (k:=k) (many:=many) (t:=2) (i:=2) (v:=v) (G:=G) (cs:=[I k,I w,I v[1],I v[2],I 0,I 0]) (by omega)) rfl) rfl
 ·have h1:1<v.length:=by omega
  have h2:2<v.length:=by omega
  have h3:3<v.length:=by omega
  rw[hd 1 h1,hd 2 h2,hd 3 h3]
  exact jbx (i:=0) (by omega) (by omega) h1 (by
   simpa using jbx (g:=g) (k:=k) (many:=many) (t:=3) (w:=w) (a:=v[1]) (b:=0) (c:=0) (n:=0) (i:=1) (v:=v) (G:=G) (by omega) (by omega) h2 (by
    simpa using jbx (g:=g) (k:=k) (many:=many) (t:=3) (w:=w) (a:=v[1]) (b:=v[2]) (c:=0) (n:=0) (i:=2) (v:=v) (G:=G) (by omega) (by omega) h3 (by
     simpa using jda (g:=g) (k:=k) (many:=many) (t:=3) (i:=3) (v:=v) (G:=G) (cs:=[I k,I w,I v[1],I v[2],I v[3],I 0]) (by omega)) rfl) rfl) rfl
def addN (m:Md) (x:Nd):Md:={m with nodes:=m.nodes++[x] }
theorem nd_k3 {x:Nd} (hl:m.nodes.length≤20000) :
  runL pg q1q ⟨[(0,.ptr true gh.length 0),(10,.ptr true (Gr gh m r J).length 0)],[],Gr gh m r J++[.cells (nC x)]⟩=some (.ret,⟨[(4,B true)],[],Gr gh (addN m x) r (J++[.cells (nC x)])⟩):=by
 refine q9e_ ?_
 have e0:Gr gh m r J++[.cells (nC x)]=gh++rdrO m r::(J++[.cells (nC x)]):=by simp[Gr]
 have e1:Gr gh (addN m x) r (J++[.cells (nC x)])=gh++rdrO (addN m x) r::(J++[.cells (nC x)]):=rfl
 have h1:∀y:GObj,(gh++y::(J++[.cells (nC x)]))[gh.length]?=some y:=fun y=>by simp
 have h2:∀y:GObj,(gh++y::(J++[.cells (nC x)]))[(Gr gh m r J).length]?=some (.cells (nC x)):=fun y=>by
  have:(Gr gh m r J).length=gh.length+(J.length+1):=by simp[Gr]
  rw[this,List.getElem?_append_right (by omega)]
  simp
 have h3:∀y z:GObj,(gh++y::(J++[.cells (nC x)])).set gh.length z=gh++z::(J++[.cells (nC x)]):=fun y z=>by simp
 have hfit:(m.nodes.length+1)*48≤maxBytes:=Nat.le_trans (by omega:(m.nodes.length+1)*48≤20001*48) (by decide)
 have hml:(m.nodes.map nodeV).length=m.nodes.length:=List.length_map _
 rw[e0,e1]
 obtain⟨q,hq⟩:∃q:GObj→List GObj,q=fun y=>gh++y::(J++[.cells (nC x)]):=⟨_,rfl⟩
 have hq':∀y,gh++y::(J++[.cells (nC x)])=q y:=fun y=>by rw[hq]
 simp only[hq'] at h1 h2 h3 ⊢
 clear hq hq' e0 e1
 generalize (Gr gh m r J).length=L at *
 have er:rdrO (addN m x) r= .cells [.sl true 6 (m.nodes.map nodeV++[nodeV x]),.sl true 2 (m.inits.map andV),.sl true 2 (m.nexts.map andV),.sl true 1 (m.bads.map I),.sl true 1 (m.holds.map I),I r]:=by simp[rdrO,addN]
 rw[er]
 unfold rdrO
 unfold nC at h2
 rw[←hml] at hfit
 rw[jb2]
 generalize m.nodes.map nodeV=NL at *
 generalize m.inits.map andV=q1
 generalize m.nexts.map andV=q2
 generalize m.bads.map I=q3
 generalize m.holds.map I=q4
 simp[q9e,ghCells,h1,h2,h3,spliceAt,grab,apX,hfit,degr1]
theorem nd_k2 {k many w a b c:Int} {v:List Int} (hl:m.nodes.length≤20000) (hm:many=wantK k) (hv:(v.length:Int)=wantK k) :
  runL pg q2k ⟨[(0,.ptr true gh.length 0),(7,I k),(8,I many),(9,.sl false 1 (v.map I)),(10,.ptr true (Gr gh m r J).length 0)],[],Gr gh m r J++[.cells [I k,I w,I a,I b,I c,I 0]]⟩=
   some (.ret,⟨[(4,B true)],[],Gr gh (addN m ⟨k,w,a,b,c,if k=1∨k=21 then v.getD (wantK k-1).toNat 0 else 0⟩) r (J++[.cells (nC ⟨k,w,a,b,c,if k=1∨k=21 then v.getD (wantK k-1).toNat 0 else 0⟩)])⟩):=by
 have hh:=fun G=>has_eq (gh:=G) k
 have ht:=jb5 k
 refine q5r_ ?_
 by_cases hc:k=1∨k=21
 ·have h3:=nd_k3 (gh:=gh) (J:=J) (r:=r) (x:=⟨k,w,a,b,c,v.getD (wantK k-1).toNat 0⟩) hl
  rw[if_pos hc]
  have hw:wantK k=2+takesOf k:=by unfold wantK;rw[if_pos hc];omega
  have e1:IntKind.i64.wrap (many-1)=wantK k-1:=by rw[hm,jas (by omega) (by omega)]
  have hlt:(wantK k-1).toNat<v.length:=by omega
  have hg:(v.map I)[(wantK k-1).toNat]?=some (I (v.getD (wantK k-1).toNat 0)):=by
   rw[List.getElem?_map,List.getElem?_eq_getElem hlt,List.getD_eq_getElem?_getD,List.getElem?_eq_getElem hlt];rfl
  have h0:(0:Int)≤wantK k-1:=by omega
  have hgl:(Gr gh m r J++[GObj.cells [I k,I w,I a,I b,I c,I 0]])[(Gr gh m r J).length]?=some (.cells [I k,I w,I a,I b,I c,I 0]):=by simp
  have hgs:∀y:GObj,(Gr gh m r J++[GObj.cells [I k,I w,I a,I b,I c,I 0]]).set (Gr gh m r J).length y=Gr gh m r J++[y]:=fun y=>by simp
  have hcd:=decide_eq_true hc
  generalize v.getD (wantK k-1).toNat 0=z at *
  generalize hN:(wantK k-1).toNat=N at *
  generalize v.map I=V at *
  generalize Gr gh m r J++[GObj.cells [I k,I w,I a,I b,I c,I 0]]=G1 at *
  generalize decide (k=1∨k=21)=bb at *
  subst hcd
  simp only[q5r,e1]
  unfold nC at h3
  simp only at h3
  have h1k:(1:Int)≤wantK k:=by omega
  simp[hh,hg,h1k,hN,hgl,hgs,spliceAt,h3]
 ·have h3:=nd_k3 (gh:=gh) (J:=J) (r:=r) (x:=⟨k,w,a,b,c,0⟩) hl
  rw[if_neg hc]
  have hcd:=decide_eq_false hc
  generalize v.map I=V at *
  generalize decide (k=1∨k=21)=bb at *
  subst hcd
  unfold nC at h3
  simp only at h3
  simp only[q5r]
  simp[hh,h3]
theorem nd_k1 {k:Int} {ws:List (List UInt8)} (hl:m.nodes.length≤20000) (hs:∀x∈ws,x.length≤3000000) (hws:ws.length≤3000000) (h2:2≤ws.length) :
  ∃J',runL pg q18 ⟨[(0,.ptr true gh.length 0),(1,.sl false 1 (SL8 ws)),(7,I k),(8,I (wantK k))],[],Gr gh m r J⟩=
   match (match numsK (ws.drop 2) with|some v=>if (v.length:Int)=wantK k then some (mkNd k v) else none|none=>none) with
   |some x=>some (.ret,⟨[(4,B true)],[],Gr gh (addN m x) r J'⟩)
   |none=>some (.ret,⟨[(4,B false)],[],Gr gh m r J⟩):=by
 have hN:=ji0 (gh:=Gr gh m r J) (many:=wantK k) (xs:=ws.drop 2) (fun x hx=>hs x (List.mem_of_mem_drop hx)) (by simp;omega)
 have ht:=jb5 k
 have hdr:(SL8 ws).drop 2=SL8 (ws.drop 2):=(List.map_drop ..).symm
 have hwl:(SL8 ws).length=ws.length:=List.length_map _
 cases hn:numsK (ws.drop 2) with
 |none=>
  refine⟨J,?_⟩
  rw[hn] at hN
  simp only[Option.getD_none,LI,List.map_nil] at hN ⊢
  refine q35_ ?_
  generalize SL8 (ws.drop 2)=D at *
  generalize SL8 ws=W at *
  simp[q35,bd,gd0,hdr,hN,show 2≤W.length by omega]
 | some v=>
  rw[hn] at hN
  simp only[Option.getD_some,LI] at hN ⊢
  by_cases hv:(v.length:Int)=wantK k
  ·rw[if_pos hv]
   rw[decide_eq_true hv] at hN
   simp only
   have hT:=fun G=>jb0 k G
   have hw1:0<v.length:=by unfold wantK at hv;split at hv<;>omega
   have hvt:takesOf k+1≤(v.length:Int):=by unfold wantK at hv;split at hv<;>omega
   have hg0:(v.map I)[0]?=some (I (v.getD 0 0)):=by
    rw[List.getElem?_map,List.getElem?_eq_getElem hw1,List.getD_eq_getElem?_getD,List.getElem?_eq_getElem hw1];rfl
   refine⟨J++[.cells (nC (mkNd k v))],?_⟩
   have h3:=nd_run (g:=gh.length) (k:=k) (many:=wantK k) (w:=v.getD 0 0) (v:=v) (G:=Gr gh m r J) hvt
   have h4:=nd_k2 (gh:=gh) (J:=J) (r:=r) (m:=m) (k:=k) (many:=wantK k) (w:=v.getD 0 0) (a:=if 0<takesOf k then v.getD 1 0 else 0) (b:=if 1<takesOf k then v.getD 2 0 else 0) (c:=if 2<takesOf k then v.getD 3 0 else 0) (v:=v) hl rfl hv
   have em:(⟨k,v.getD 0 0,if 0<takesOf k then v.getD 1 0 else 0,if 1<takesOf k then v.getD 2 0 else 0,if 2<takesOf k then v.getD 3 0 else 0,if k=1∨k=21 then v.getD (wantK k-1).toNat 0 else 0⟩:Nd)=mkNd k v:=rfl
   rw[em] at h4
   refine q35_ ?_
   have hG1:∀y:GObj,(Gr gh m r J++[y])[(Gr gh m r J).length]?=some y:=fun y=>by simp
   have hG2:∀y z:GObj,(Gr gh m r J++[y]).set (Gr gh m r J).length z=Gr gh m r J++[z]:=fun y z=>by simp
   generalize (if 0<takesOf k then v.getD 1 0 else 0)=a at *
   generalize (if 1<takesOf k then v.getD 2 0 else 0)=b at *
   generalize (if 2<takesOf k then v.getD 3 0 else 0)=c at *
   generalize v.getD 0 0=w0 at *
   generalize Gr gh (addN m (mkNd k v)) r (J++[.cells (nC (mkNd k v))])=G9 at *
   unfold nst at h3
   obtain⟨q,hq⟩:∃q:GObj→List GObj,q=fun y=>Gr gh m r J++[y]:=⟨_,rfl⟩
   have hq':∀y,Gr gh m r J++[y]=q y:=fun y=>by rw[hq]
   simp only[hq'] at h3 h4 hG1 hG2
   generalize v.map I=V at *
   generalize SL8 (ws.drop 2)=D at *
   generalize SL8 ws=W at *
   simp only[Int.natCast_zero] at h3
   simp[q35,bd,gd0,hdr,hN,hT,hg0,ghCells,hq',hG1,hG2,spliceAt,h3,h4,show 2≤W.length by omega]
  ·rw[if_neg hv]
   rw[decide_eq_false hv] at hN
   refine⟨J,?_⟩
   simp only
   refine q35_ ?_
   generalize SL8 (ws.drop 2)=D at *
   generalize SL8 ws=W at *
   generalize v.map I=V at *
   simp[q35,bd,gd0,hdr,hN,show 2≤W.length by omega]
theorem jnu {w:List UInt8} {rest:List (List UInt8)} (hl:m.nodes.length≤20000) (hs:∀x∈w::rest,x.length≤3000000) (hws:(w::rest).length≤3000000) :
  ∃J',callL pg 361 [.ptr true gh.length 0,.sl false 1 (SL8 (w::rest))] (Gr gh m r J)=
   match nodeK m r (w::rest) with
   |some x=>some (B true,Gr gh (addN m x) r J')
   |none=>some (B false,Gr gh m r J):=by
 obtain⟨v,hv,hv2⟩:=jhy (gh:=Gr gh m r J) (x:=w) (hs w (by simp))
 have hg:=Gr_get (gh:=gh) (J:=J) (m:=m) (r:=r)
 unfold rdrO at hg
 have hml:(m.nodes.map nodeV).length=m.nodes.length:=List.length_map _
 have fin:∀(b:Bool) (G:List GObj),runL pg q4o ⟨[(0,.ptr true gh.length 0),(1,.sl false 1 (SL8 (w::rest)))],[],Gr gh m r J⟩=some (.ret,⟨[(4,B b)],[],G⟩)→callL pg 361 [.ptr true gh.length 0,.sl false 1 (SL8 (w::rest))] (Gr gh m r J)=some (B b,G):=fun b G h=>
  jaf (fn:=q4p) rfl rfl h (by simp[finish,results,q4p,resOfs,resOf,resOk])
 by_cases h0:0≤undK w
 ·obtain rfl:=hv2 h0
  rw[decide_eq_true h0] at hv
  by_cases h1:undK w=(m.nodes.length:Int)
  ·match rest with
   |[]=>
    refine⟨J,fin _ _ (qx_ ?_)⟩
    rw[←hml] at h1
    generalize m.nodes.map nodeV=NL at *
    generalize undK w=u at *
    subst h1
    simp[qx,ghCells,hv,hg,grab]
   | u ::rest=>
    by_cases h2:r≤0
    ·have hix:=fun G=>ji2 (gh:=G) (w:=u) (xs:=wordsL.drop 1) (by decide)
     have hsl:((List.map PV.str textWords).take 24).tail=SL8 (wordsL.drop 1):=rfl
     have hn2:¬((rest.length:Int)+1+1<2):=by omega
     have hr0:¬(0<r):=by omega
     have hkr:=jnt u
     have ek:IntKind.i64.wrap (idxF u (wordsL.drop 1) 0+1)=kindOf u:=by
      unfold kindOf at hkr ⊢
      rw[jas (by omega) (by omega)]
     have htl:(List.map PV.str textWords).length=24:=rfl
     generalize idxF u (wordsL.drop 1) 0=ix at *
     by_cases h3:kindOf u=0
     ·have hK:nodeK m r (w::u::rest)=none:=by
       rw[jcg,if_neg (fun h=>h.2.2 h3)]
      rw[hK]
      refine⟨J,fin _ _ (qx_ ?_)⟩
      rw[←hml] at h1
      generalize m.nodes.map nodeV=NL at *
      generalize undK w=uu at *
      subst h1
      generalize SL8 (wordsL.drop 1)=WL at *
      simp only[qx]
      generalize List.map PV.str textWords=TW at *
      simp[ghCells,hv,hg,grab,gd0,hn2,hr0,hsl,htl,hix,ek,h3]
     ·obtain⟨J',hk⟩:=nd_k1 (gh:=gh) (J:=J) (r:=r) (m:=m) (k:=kindOf u) (ws:=w::u::rest) hl hs hws (by simp)
      have hK:nodeK m r (w::u::rest)=(match numsK ((w::u::rest).drop 2) with|some v=>if (v.length:Int)=wantK (kindOf u) then some (mkNd (kindOf u) v) else none|none=>none):=by
       rw[jcg,if_pos ⟨h1,h2,h3⟩]
       rfl
      rw[hK]
      refine⟨J',?_⟩
      have hT:=fun G=>jb0 (kindOf u) G
      have hh:=fun G=>has_eq (gh:=G) (kindOf u)
      have ht:=jb5 (kindOf u)
      have hwk:wantK (kindOf u)=1+takesOf (kindOf u)+(if kindOf u=1∨kindOf u=21 then 1 else 0):=rfl
      have e1:IntKind.i64.wrap (1+takesOf (kindOf u))=1+takesOf (kindOf u):=jas (by omega) (by omega)
      have e2:IntKind.i64.wrap (1+takesOf (kindOf u)+1)=1+takesOf (kindOf u)+1:=jas (by omega) (by omega)
      have main:∀(b:Bool) (G:List GObj),runL pg q18 ⟨[(0,.ptr true gh.length 0),(1,.sl false 1 (SL8 (w::u::rest))),(7,I (kindOf u)),(8,I (wantK (kindOf u)))],[],Gr gh m r J⟩=some (.ret,⟨[(4,B b)],[],G⟩)→callL pg 361 [.ptr true gh.length 0,.sl false 1 (SL8 (w::u::rest))] (Gr gh m r J)=some (B b,G):=by
       intro b G hk
       refine fin _ _ (qx_ ?_)
       simp only[List.map_cons] at hk
       rw[←hml] at h1
       generalize m.nodes.map nodeV=NL at *
       generalize undK w=uu at *
       subst h1
       generalize SL8 (wordsL.drop 1)=WL at *
       simp only[qx]
       generalize List.map PV.str textWords=TW at *
       generalize takesOf (kindOf u)=t at *
       by_cases hc:kindOf u=1∨kindOf u=21
       ·have hcd:=decide_eq_true hc
        rw[if_pos hc] at hwk
        rw[hwk] at hk
        generalize decide (kindOf u=1∨kindOf u=21)=bb at *
        subst hcd
        simp[ghCells,hv,hg,grab,gd0,hn2,hr0,hsl,htl,hix,ek,h3,hT,hh,e1,e2,hk]
       ·have hcd:=decide_eq_false hc
        rw[if_neg hc,Int.add_zero] at hwk
        rw[hwk] at hk
        generalize decide (kindOf u=1∨kindOf u=21)=bb at *
        subst hcd
        simp[ghCells,hv,hg,grab,gd0,hn2,hr0,hsl,htl,hix,ek,h3,hT,hh,e1,e2,hk]
      generalize (match numsK ((w::u::rest).drop 2) with|some v=>if (v.length:Int)=wantK (kindOf u) then some (mkNd (kindOf u) v) else none|none=>none)=o at *
      cases o with
      |none=>exact main _ _ hk
      |some x=>exact main _ _ hk
    ·have hK:nodeK m r (w::u::rest)=none:=by
      rw[jcg,if_neg (fun h=>h2 h.2.1)]
     rw[hK]
     refine⟨J,fin _ _ (qx_ ?_)⟩
     rw[←hml] at h1
     generalize m.nodes.map nodeV=NL at *
     generalize undK w=uu at *
     subst h1
     have hn2:¬((rest.length:Int)+1+1<2):=by omega
     simp[qx,ghCells,hv,hg,grab,hn2,show 0<r by omega]
  ·have hK:nodeK m r (w::rest)=none:=by
    unfold nodeK
    split
    ·rename_i e
     injection e with e1 e2
     subst e1
     rw[if_neg (fun h=>h1 h.1)]
    ·rfl
   rw[hK]
   refine⟨J,fin _ _ (qx_ ?_)⟩
   rw[←hml] at h1
   generalize m.nodes.map nodeV=NL at *
   generalize undK w=uu at *
   simp[qx,ghCells,hv,hg,grab,h1]
 ·have hK:nodeK m r (w::rest)=none:=by
   unfold nodeK
   split
   ·rename_i e
    injection e with e1 e2
    subst e1
    rw[if_neg (fun h=>h0 (by omega))]
   ·rfl
  rw[hK]
  rw[decide_eq_false h0] at hv
  refine⟨J,fin _ _ (qx_ ?_)⟩
  simp[qx,hv]
end
end Go.Lw
end

/-! Models out of texts: the program's reader of a line. -/
section
namespace Go.Lw
open Go
def sortsL:List (List UInt8):=[[],[105,110,105,116],[110,101,120,116],[98,97,100],[104,111,108,100]]
def sortOf (w:List UInt8):Int:=idxF w sortsL 0
def addS (m:Md) (s:Int) (v:List Int):Md:=
 if s=1 then {m with inits:=m.inits++[(v.getD 0 0,v.getD 1 0)] } else if s=2 then {m with nexts:=m.nexts++[(v.getD 0 0,v.getD 1 0)] }
 else if s=3 then {m with bads:=m.bads++[v.getD 0 0] } else {m with holds:=m.holds++[v.getD 0 0] }
def manyOf (s:Int):Int:=if 2<s then 1 else 2
def lineK (m:Md) (r:Int) (x:List UInt8):Option (Md×Int):=match splitK 32 x with
 |[]=>none
 | w::rest=>if sortOf w<1 then (nodeK m r (w::rest)).map fun x=>(addN m x,r)
  else match numsK rest with
   |some v=>if (v.length:Int)=manyOf (sortOf w)∧r≤sortOf w then some (addS m (sortOf w) v,sortOf w) else none
   |none=>none
structure MdZ (m:Md) (N:Nat):Prop where
 nodes:m.nodes.length≤N
 inits:m.inits.length≤N
 nexts:m.nexts.length≤N
 bads:m.bads.length≤N
 holds:m.holds.length≤N
section
variable {gh J:List GObj} {m:Md} {r:Int}
theorem ln_k1 {w:List UInt8} {rest:List (List UInt8)} {s:Int} (hz:MdZ m 20000) (hs:∀x∈rest,x.length≤3000000) (hws:rest.length≤3000000) (h1:1≤s) (h4:s≤4) :
  runL pg q16 ⟨[(0,.ptr true gh.length 0),(5,.sl false 1 (SL8 (w::rest))),(6,I s),(7,I (manyOf s))],[],Gr gh m r J⟩=
   match (match numsK rest with|some v=>if (v.length:Int)=manyOf s∧r≤s then some (addS m s v,s) else none|none=>none:Option (Md×Int)) with
   |some (m',r')=>some (.ret,⟨[(4,B true)],[],Gr gh m' r' J⟩)
   |none=>some (.ret,⟨[(4,B false)],[],Gr gh m r J⟩):=by
 have hN:=ji0 (gh:=Gr gh m r J) (many:=manyOf s) hs hws
 have hg:=Gr_get (gh:=gh) (J:=J) (m:=m) (r:=r)
 unfold rdrO at hg
 simp only[SL8,List.map_cons] at hN ⊢
 generalize hD0:rest.map (fun x=>PV.str (bA x))=D at *
 cases hn:numsK rest with
 |none=>
  rw[hn] at hN
  simp only[Option.getD_none,LI,List.map_nil] at hN ⊢
  refine qt_ ?_
  simp[qt,gd0,hN]
 | some v=>
  rw[hn] at hN
  simp only[Option.getD_some,LI] at hN ⊢
  by_cases hv:(v.length:Int)=manyOf s
  ·rw [decide_eq_true hv] at hN
   by_cases hr:r≤s
   ·rw[if_pos ⟨hv,hr⟩]
    simp only
    have hk2:∀G:List GObj,runL pg qn ⟨[],[],G⟩=some (.ret,⟨[(4,B true)],[],G⟩):=fun G=>qaa_ rfl
    have hr':¬s<r:=by omega
    have g1:∀y:GObj,(gh++y::J)[gh.length]?=some y:=fun y=>by simp
    have g2:∀y z:GObj,(gh++y::J).set gh.length z=gh++z::J:=fun y z=>by simp
    unfold Gr at hN ⊢
    obtain⟨q,hq⟩:∃q:GObj→List GObj,q=fun y=>gh++y::J:=⟨_,rfl⟩
    have hq':∀y,gh++y::J=q y:=fun y=>by rw[hq]
    simp only[hq'] at hN g1 g2 ⊢
    clear hq hq' hg
    have z1:((m.inits.map andV).length+1)*16≤maxBytes:=Nat.le_trans (by have:=hz.inits;rw[List.length_map];omega:_≤20001*16) (by decide)
    have z2:((m.nexts.map andV).length+1)*16≤maxBytes:=Nat.le_trans (by have:=hz.nexts;rw[List.length_map];omega:_≤20001*16) (by decide)
    have z3:((m.bads.map I).length+1)*8≤maxBytes:=Nat.le_trans (by have:=hz.bads;rw[List.length_map];omega:_≤20001*8) (by decide)
    have z4:((m.holds.map I).length+1)*8≤maxBytes:=Nat.le_trans (by have:=hz.holds;rw[List.length_map];omega:_≤20001*8) (by decide)
    refine qt_ ?_
    have hcase:s=1∨s=2∨s=3∨s=4:=by omega
    rcases hcase with rfl|rfl|rfl|rfl
    ·match v,hv with
     |[a,b],_=>
      have er:rdrO (addS m 1 [a,b]) 1= .cells [.sl true 6 (m.nodes.map nodeV),.sl true 2 (m.inits.map andV++[.agg [I a,I b]]),.sl true 2 (m.nexts.map andV),.sl true 1 (m.bads.map I),.sl true 1 (m.holds.map I),I 1]:=by simp[rdrO,addS,andV]
      rw[er]
      unfold rdrO at hN ⊢
      generalize m.nodes.map nodeV=q0 at *
      generalize m.inits.map andV=q1 at *
      generalize m.nexts.map andV=q2 at *
      generalize m.bads.map I=q3 at *
      generalize m.holds.map I=q4 at *
      simp only[List.map_cons,List.map_nil] at hN
      simp[qt,gd0,hN,ghCells,g1,g2,grab,hr',spliceAt,apX,z1,degr1,hk2]
    ·match v,hv with
     |[a,b],_=>
      have er:rdrO (addS m 2 [a,b]) 2= .cells [.sl true 6 (m.nodes.map nodeV),.sl true 2 (m.inits.map andV),.sl true 2 (m.nexts.map andV++[.agg [I a,I b]]),.sl true 1 (m.bads.map I),.sl true 1 (m.holds.map I),I 2]:=by simp[rdrO,addS,andV]
      rw[er]
      unfold rdrO at hN ⊢
      generalize m.nodes.map nodeV=q0 at *
      generalize m.inits.map andV=q1 at *
      generalize m.nexts.map andV=q2 at *
      generalize m.bads.map I=q3 at *
      generalize m.holds.map I=q4 at *
      simp only[List.map_cons,List.map_nil] at hN
      simp[qt,gd0,hN,ghCells,g1,g2,grab,hr',spliceAt,apX,z2,degr1,hk2]
    ·match v,hv with
     |[a],_=>
      have er:rdrO (addS m 3 [a]) 3= .cells [.sl true 6 (m.nodes.map nodeV),.sl true 2 (m.inits.map andV),.sl true 2 (m.nexts.map andV),.sl true 1 (m.bads.map I++[I a]),.sl true 1 (m.holds.map I),I 3]:=by simp[rdrO,addS]
      rw[er]
      unfold rdrO at hN ⊢
      generalize m.nodes.map nodeV=q0 at *
      generalize m.inits.map andV=q1 at *
      generalize m.nexts.map andV=q2 at *
      generalize m.bads.map I=q3 at *
      generalize m.holds.map I=q4 at *
      simp only[List.map_cons,List.map_nil] at hN
      simp[qt,gd0,hN,ghCells,g1,g2,grab,hr',spliceAt,apX,z3,degr1,hk2]
    ·match v,hv with
     |[a],_=>
      have er:rdrO (addS m 4 [a]) 4= .cells [.sl true 6 (m.nodes.map nodeV),.sl true 2 (m.inits.map andV),.sl true 2 (m.nexts.map andV),.sl true 1 (m.bads.map I),.sl true 1 (m.holds.map I++[I a]),I 4]:=by simp[rdrO,addS]
      rw[er]
      unfold rdrO at hN ⊢
      generalize m.nodes.map nodeV=q0 at *
      generalize m.inits.map andV=q1 at *
      generalize m.nexts.map andV=q2 at *
      generalize m.bads.map I=q3 at *
      generalize m.holds.map I=q4 at *
      simp only[List.map_cons,List.map_nil] at hN
      simp[qt,gd0,hN,ghCells,g1,g2,grab,hr',spliceAt,apX,z4,degr1,hk2]
   ·rw[if_neg (fun h=>hr h.2)]
    simp only
    refine qt_ ?_
    generalize v.map I=V at *
    simp[qt,gd0,hN,ghCells,hg,grab,show s<r by omega]
  ·rw[if_neg (fun h=>hv h.1)]
   rw[decide_eq_false hv] at hN
   simp only
   refine qt_ ?_
   generalize v.map I=V at *
   simp[qt,gd0,hN]
theorem jnv {x:List UInt8} (hz:MdZ m 20000) (hx:x.length≤2000000) :
  ∃J',callL pg 353 [.ptr true gh.length 0,.str (bA x)] (Gr gh m r J)=
   match lineK m r x with
   |some (m',r')=>some (B true,Gr gh m' r' J')
   |none=>some (B false,Gr gh m r J):=by
 have hsp:=fun G=>jmt (gh:=G) (c:=32) (x:=x) (by omega)
 have hsz:=jh0 32 x
 have hsl:=jbj 32 x
 unfold lineK
 cases hws:splitK 32 x with
 |nil=>rw[hws] at hsl;simp at hsl
 | cons w rest=>
  rw[hws] at hsp hsz hsl
  simp only
  have hix:=fun G=>ji2 (gh:=G) (w:=w) (xs:=sortsL) (by decide)
  rw[show idxF w sortsL 0=sortOf w from rfl] at hix
  have hrg:=jev w sortsL 0
  rw[show idxF w sortsL 0=sortOf w from rfl,show sortsL.length=5 from rfl] at hrg
  have esl:SL8 sortsL=[.str ByteArray.empty,.str (⟨#[105,110,105,116]⟩:ByteArray),.str (⟨#[110,101,120,116]⟩:ByteArray),.str (⟨#[98,97,100]⟩:ByteArray),.str (⟨#[104,111,108,100]⟩:ByteArray)]:=rfl
  rw[esl] at hix
  have ebs:(⟨#[32]⟩:ByteArray)=bA [32]:=rfl
  have fin:∀(b:Bool) (G:List GObj),runL pg q4k ⟨[(0,.ptr true gh.length 0),(1,.str (bA x))],[],Gr gh m r J⟩=some (.ret,⟨[(4,B b)],[],G⟩)→callL pg 353 [.ptr true gh.length 0,.str (bA x)] (Gr gh m r J)=some (B b,G):=fun b G h=>
   jaf (fn:=q4l) rfl rfl h (by simp[finish,results,q4l,resOfs,resOf,resOk])
  generalize sortOf w=s at *
  by_cases h1:s<1
  ·rw[if_pos h1]
   obtain⟨J',hnd⟩:=jnu (gh:=gh) (J:=J) (m:=m) (r:=r) (w:=w) (rest:=rest) hz.nodes (fun y hy=>by have:=hsz y hy;omega) (by omega)
   refine⟨J',?_⟩
   have main:∀(b:Bool) (G:List GObj),callL pg 361 [.ptr true gh.length 0,.sl false 1 (SL8 (w::rest))] (Gr gh m r J)=some (B b,G)→callL pg 353 [.ptr true gh.length 0,.str (bA x)] (Gr gh m r J)=some (B b,G):=by
    intro b G h
    refine fin _ _ (q36_ ?_)
    simp only[List.map_cons] at h hsp
    generalize rest.map (fun x=>PV.str (bA x))=R at *
    simp[q36,ebs,hsp,hix,h1,h]
   cases hk:nodeK m r (w::rest) with
   |none=>rw[hk] at hnd;exact main _ _ hnd
   |some y=>rw[hk] at hnd;exact main _ _ hnd
  ·rw[if_neg h1]
   have hk1:=ln_k1 (gh:=gh) (J:=J) (m:=m) (r:=r) (w:=w) (rest:=rest) (s:=s) hz (fun y hy=>by have:=hsz y (by simp[hy]);omega) (by simp at hsl;omega) (by omega) (by omega)
   refine⟨J,?_⟩
   have main:∀(b:Bool) (G:List GObj),runL pg q16 ⟨[(0,.ptr true gh.length 0),(5,.sl false 1 (SL8 (w::rest))),(6,I s),(7,I (manyOf s))],[],Gr gh m r J⟩=some (.ret,⟨[(4,B b)],[],G⟩)→callL pg 353 [.ptr true gh.length 0,.str (bA x)] (Gr gh m r J)=some (B b,G):=by
    intro b G h
    refine fin _ _ (q36_ ?_)
    unfold manyOf at h
    simp only[List.map_cons] at h hsp
    generalize rest.map (fun x=>PV.str (bA x))=R at *
    by_cases h2:2<s
    ·rw[if_pos h2] at h
     simp[q36,ebs,hsp,hix,h1,h2,h]
    ·rw[if_neg h2] at h
     simp[q36,ebs,hsp,hix,h1,h2,h]
   generalize (match numsK rest with|some v=>if (v.length:Int)=manyOf s∧r≤s then some (addS m s v,s) else none|none=>none:Option (Md×Int))=o at *
   match o with
   |none=>exact main _ _ hk1
   |some (m',r')=>exact main _ _ hk1
end
end Go.Lw
end

/-! Models out of texts: the program's Parse. -/
section
namespace Go.Lw
open Go
def m0:Md:=⟨[],[],[],[],[]⟩
def pgo:List (List UInt8)→Md→Int→Nat→Nat ⊕ Md
 |[],m,_,_=> .inr m
 |[x],m,_,n=>if x=[] then .inr m else .inl n
 |x::y::t,m,r,n=>match lineK m r x with
  |none=> .inl n
  |some (m',r')=>pgo (y::t) m' r' (n+1)
def parseE (s:List UInt8):Md×Int×Int:=if 10000<s.length then (m0,0,2) else match pgo (splitK 10 s) m0 0 1 with
 | .inl e=>(m0,(e:Int),1)
 | .inr m=>if checkE m=0 then (m,0,0) else (m0,0,checkE m)
theorem jch (x:List UInt8) (m:Md) (r:Int) (n:Nat):pgo [x] m r n=if x=[] then .inr m else .inl n:=rfl
theorem jdb (x y:List UInt8) (t:List (List UInt8)) (m:Md) (r:Int) (n:Nat):pgo (x::y::t) m r n=match lineK m r x with
  |none=> .inl n
  |some (m',r')=>pgo (y::t) m' r' (n+1):=rfl
theorem MdZ_m0 (N:Nat):MdZ m0 N:=⟨Nat.zero_le _,Nat.zero_le _,Nat.zero_le _,Nat.zero_le _,Nat.zero_le _⟩
theorem jdc {m:Md} {N M:Nat} (h:MdZ m N) (k:N≤M):MdZ m M:=⟨Nat.le_trans h.1 k,Nat.le_trans h.2 k,Nat.le_trans h.3 k,Nat.le_trans h.4 k,Nat.le_trans h.5 k⟩
theorem ji3 {m m':Md} {r r':Int} {x:List UInt8} {N:Nat} (h:MdZ m N) (hk:lineK m r x=some (m',r')):MdZ m' (N+1):=by
 obtain⟨h1,h2,h3,h4,h5⟩:=h
 unfold lineK at hk
 split at hk
 ·cases hk
 ·split at hk
  ·simp only[Option.map_eq_some_iff,Prod.mk.injEq] at hk
   obtain⟨y,-,rfl,-⟩:=hk
   refine⟨?_,?_,?_,?_,?_⟩<;>simp[addN]<;>omega
  ·split at hk
   ·split at hk
    ·simp only[Option.some.injEq,Prod.mk.injEq] at hk
     obtain⟨rfl,-⟩:=hk
     unfold addS
     split
     ·refine⟨?_,?_,?_,?_,?_⟩<;>simp<;>omega
     ·split
      ·refine⟨?_,?_,?_,?_,?_⟩<;>simp<;>omega
      ·split
       ·refine⟨?_,?_,?_,?_,?_⟩<;>simp<;>omega
       ·refine⟨?_,?_,?_,?_,?_⟩<;>simp<;>omega
    ·cases hk
   ·cases hk
theorem pgo_z:∀{l:List (List UInt8)} {m m':Md} {r:Int} {n N:Nat},MdZ m N→pgo l m r n= .inr m'→MdZ m' (N+l.length)
 |[],m,m',r,n,N,h,hk=>by cases hk;exact h
 |[x],m,m',r,n,N,h,hk=>by
  rw[jch] at hk
  split at hk
  ·cases hk;exact jdc h (by simp)
  ·cases hk
 | x::y::t,m,m',r,n,N,h,hk=>by
  rw[jdb] at hk
  split at hk
  ·cases hk
  ·rename_i m2 r2 e
   have:=pgo_z (ji3 h e) hk
   exact jdc this (by simp;omega)
section
variable {gh:List GObj}
abbrev nilM:List PV:=[.sl true 6 [],.sl true 2 [],.sl true 2 [],.sl true 1 [],.sl true 1 []]
theorem ji4:∀(k:Nat) (s:List UInt8) (m:Md) (r:Int) (J:List GObj) (n N:Nat),(splitK 10 s).length=k→s.length≤20000→MdZ m N→N+k≤20000→n+k≤1000000→
  ∃(m2:Md) (r2:Int) (J2:List GObj),runL pg q4j ⟨[(0,.str (bA s)),(2,.ptr false 0 0),(5,.ptr true gh.length 0),(6,I (n:Int))],[nilM],Gr gh m r J⟩=
   match pgo (splitK 10 s) m r n with
   | .inl e=>some (.ret,⟨[(2,.ptr false 0 0),(3,I (e:Int)),(4,I 1)],[nilM],Gr gh m2 r2 J2⟩)
   | .inr m'=>some (.normal,⟨[(2,.ptr false 0 0),(5,.ptr true gh.length 0)],[nilM],Gr gh m' r2 J2⟩)
 |0,s,_,_,_,_,_,h,_,_,_,_=>by
  have:=(jbj 10 s).1
  omega
 | k +1,s,m,r,J,n,N,h,hs,hz,hN,hn=>by
  have eE:ByteArray.empty=bA []:=rfl
  by_cases h0:s=[]
  ·subst h0
   refine⟨m,r,J,?_⟩
   rw[show splitK 10 []=[[]] from rfl,jch,if_pos rfl]
   refine (jat (s1:=⟨[(0,.str (bA [])),(2,.ptr false 0 0),(5,.ptr true gh.length 0),(6,I (n:Int)),(18,B false)],[nilM],Gr gh m r J⟩) (q24_ ?h1)).trans ?r1
   case h1=>
    generalize Gr gh m r J=G at *
    simp[q24,eE]
   case r1=>simp[keep,stays]
  ·have hc:=fun G=>jmu (gh:=G) (c:=10) (x:=s) (by omega)
   have hie:s.isEmpty=false:=by cases s with
    |nil=>exact absurd rfl h0
    |cons a b=>rfl
   have eN:(⟨#[10]⟩:ByteArray)=bA [10]:=rfl
   have e2:IntKind.i64.wrap ((n:Int)+1)=((n+1:Nat):Int):=by rw[jas (by omega) (by omega)];omega
   rcases jet 10 s with ⟨c1,c2⟩|⟨x,rest,c1,c2,c3⟩
   ·refine⟨m,r,J,?_⟩
    rw[c2,jch,if_neg h0]
    rw[c1] at hc
    refine lp_ret (q24_ ?h2)
    case h2=>
     generalize Gr gh m r J=G at *
     simp only at hc
     simp[q24,eE,eN,hie,hc]
   ·rw[c1] at hc
    simp only at hc
    have hxl:x.length+rest.length+1=s.length:=by rw[c3];simp;omega
    obtain⟨J',hl⟩:=jnv (gh:=gh) (J:=J) (m:=m) (r:=r) (x:=x) (jdc hz (by omega)) (by omega)
    have hkl:(splitK 10 rest).length=k:=by rw[c2] at h;simpa using h
    obtain⟨y,t,hyt⟩:=jcf 10 rest
    rw[c2,hyt,jdb]
    cases hk:lineK m r x with
    | none=>
     rw[hk] at hl
     refine⟨m,r,J,?_⟩
     simp only at hl ⊢
     refine lp_ret (q24_ ?h3)
     case h3=>
      generalize Gr gh m r J=G at *
      simp[q24,eE,eN,hie,hc,hl]
    | some p=>
     obtain⟨m',r'⟩:=p
     rw[hk] at hl
     simp only at hl ⊢
     obtain⟨m2,r2,J2,hrec⟩:=ji4 k rest m' r' J' (n+1) (N+1) hkl (by omega) (ji3 hz hk) (by omega) (by omega)
     rw[hyt] at hrec
     refine⟨m2,r2,J2,?_⟩
     refine jai (q24_ (s:=⟨[(0,.str (bA rest)),(2,.ptr false 0 0),(5,.ptr true gh.length 0),(6,I ((n+1:Nat):Int))],[nilM],Gr gh m' r' J'⟩) ?h4) hrec
     case h4=>
      generalize Gr gh m' r' J'=G1 at *
      generalize Gr gh m r J=G at *
      generalize ((n+1:Nat):Int)=T at *
      simp[q24,eE,eN,hie,hc,hl,e2]
theorem ji5 {m:Md} {r:Int} {J:List GObj}:(Gr gh m r J).take gh.length=gh:=by simp[Gr]
theorem jnw (l:List Nd):noGs (l.map nodeV)=true:=by
 induction l with
 |nil=>rfl
 |cons a l ih=>simp[noGs,PV.noG,nodeV,ih]
theorem ji6 (l:List (Int×Int)):noGs (l.map andV)=true:=by
 induction l with
 |nil=>rfl
 |cons a l ih=>simp[noGs,PV.noG,andV,ih]
theorem ji7 {s:List UInt8} (hs:s.length≤2000000):callL pg 348 [.str (bA s)] gh=some (.tup [modelV (parseE s).1,I (parseE s).2.1,I (parseE s).2.2],gh):=by
 have hz:((bA s).size:Nat)=s.length:=jbd s
 unfold parseE
 by_cases h1:10000<s.length
 ·rw[if_pos h1]
  refine jaf (fn:=qm) (s:=⟨[(2,.ptr false 0 0),(3,I 0),(4,I 2)],[nilM],gh⟩) rfl rfl (q25_ ?h1) ?r1
  case h1=>simp[q25,hz,show (10000:Int)<(s.length:Int) by omega]
  case r1=>simp[finish,results,qm,resOfs,resOf,St.cellsAt,resOk,modelV,m0]
 ·rw [if_neg h1]
  have hsl:=jbj 10 s
  obtain⟨m2,r2,J2,hl⟩:=ji4 (gh:=gh) (splitK 10 s).length s m0 0 [] 1 0 rfl (by omega) (MdZ_m0 0) (by omega) (by omega)
  have hg0:gh++[GObj.cells [.sl true 6 [],.sl true 2 [],.sl true 2 [],.sl true 1 [],.sl true 1 [],I 0]]=Gr gh m0 0 []:=rfl
  have hn1:¬(10000:Int)<(s.length:Int):=by omega
  cases hp:pgo (splitK 10 s) m0 0 1 with
  |inl e=>
   rw[hp] at hl
   simp only[Int.natCast_one] at hl ⊢
   have ht:=ji5 (gh:=gh) (m:=m2) (r:=r2) (J:=J2)
   generalize Gr gh m2 r2 J2=G2 at *
   generalize Gr gh m0 0 []=G0 at *
   refine jaf (fn:=qm) (s:=⟨[(2,.ptr false 0 0),(3,I (e:Int)),(4,I 1)],[nilM],G2⟩) rfl rfl (q25_ ?h2) ?r2
   case h2=>simp[q25,hz,hn1,hg0,hl]
   case r2=>simp[finish,results,qm,resOfs,resOf,St.cellsAt,resOk,modelV,m0,ht]
  | inr m=>
   rw[hp] at hl
   simp only[Int.natCast_one] at hl ⊢
   have hmz:=pgo_z (MdZ_m0 0) hp
   have hC:=jhp (m:=m) (gh:=Gr gh m r2 J2) (by simp only[Sz];have:=hmz.inits;omega) (by simp only[Sz];have:=hmz.nexts;omega)
   have ht:=ji5 (gh:=gh) (m:=m) (r:=r2) (J:=J2)
   have hg:=Gr_get (gh:=gh) (m:=m) (r:=r2) (J:=J2)
   unfold rdrO at hg
   generalize Gr gh m r2 J2=G2 at *
   generalize Gr gh m0 0 []=G0 at *
   have w0:=jnw m.nodes
   have w1:=ji6 m.inits
   have w2:=ji6 m.nexts
   have w3:=jeu m.bads
   have w4:=jeu m.holds
   rw[jav] at hC
   simp only[LN,LP,LI] at hC
   by_cases hc:checkE m=0
   ·rw[if_pos hc]
    rw[hc] at hC
    rw[jav]
    simp only[LN,LP,LI]
    generalize m.nodes.map nodeV=q0 at *
    generalize m.inits.map andV=q1 at *
    generalize m.nexts.map andV=q2 at *
    generalize m.bads.map I=q3 at *
    generalize m.holds.map I=q4 at *
    have hk:runL pg q1o ⟨[(2,.ptr false 0 0),(5,.ptr true gh.length 0)],[nilM],G2⟩=some (.ret,⟨[(2,.ptr false 0 0),(3,I 0),(4,I 0)],[[.sl false 6 q0,.sl false 2 q1,.sl false 2 q2,.sl false 1 q3,.sl false 1 q4]],G2⟩):=by
     refine q5u_ ?_
     simp[q5u,ghCells,hg,grab,hC]
    refine jaf (fn:=qm) (s:=⟨[(2,.ptr false 0 0),(3,I 0),(4,I 0)],[[.sl false 6 q0,.sl false 2 q1,.sl false 2 q2,.sl false 1 q3,.sl false 1 q4]],G2⟩) rfl rfl (q25_ ?h3) ?r3
    case h3=>simp[q25,hz,hn1,hg0,hl,hk]
    case r3=>simp[finish,results,qm,resOfs,resOf,St.cellsAt,resOk,ht,w0,w1,w2,w3,w4]
   ·rw[if_neg hc]
    generalize checkE m=e at *
    generalize m.nodes.map nodeV=q0 at *
    generalize m.inits.map andV=q1 at *
    generalize m.nexts.map andV=q2 at *
    generalize m.bads.map I=q3 at *
    generalize m.holds.map I=q4 at *
    have hk:runL pg q1o ⟨[(2,.ptr false 0 0),(5,.ptr true gh.length 0)],[nilM],G2⟩=some (.ret,⟨[(2,.ptr false 0 0),(3,I 0),(4,I e)],[nilM],G2⟩):=by
     refine q5u_ ?_
     simp[q5u,ghCells,hg,grab,hC,hc]
    refine jaf (fn:=qm) (s:=⟨[(2,.ptr false 0 0),(3,I 0),(4,I e)],[nilM],G2⟩) rfl rfl (q25_ ?h4) ?r4
    case h4=>simp[q25,hz,hn1,hg0,hl,hk]
    case r4=>simp[finish,results,qm,resOfs,resOf,St.cellsAt,resOk,modelV,m0,ht]
end
end Go.Lw
end

/-! What is printed is parsed as it was, and what is parsed was printed so: plain laws. -/
section
namespace Go.Lw
open Go
abbrev N9 (n:Int):Prop:=0≤n∧n<1000000000
theorem ji8:∀(k u j:Nat),u<10^(j+1)→(digK (k+1) u).length≤j+1
 | k,u,j,h=>by
  rw[digK]
  by_cases hu:u<10
  ·rw[if_pos hu];simp
  ·rw[if_neg hu]
   cases j with
   |zero=>simp at h;omega
   | succ j=>
    cases k with
    |zero=>simp[digK]
    |succ k=>
     have:=ji8 k (u/10) j (by rw[Nat.pow_succ] at h;omega)
     rw[List.length_append,List.length_singleton];omega
theorem und9 {n:Int} (h:N9 n):undK (itoaK n)=n:=by
 refine jh8 h.1 (by omega) ?_
 rw[jbv h.1]
 exact ji8 19 n.toNat 8 (by omega)
theorem jdd:∀(k u:Nat),∀b∈digK k u,48≤b.toNat∧b.toNat≤57
 |0,u,b,h=>by cases h
 | k+1,u,b,h=>by
  rw[digK] at h
  split at h
  ·rw[List.mem_singleton] at h
   subst h
   have:(UInt8.ofNat (48+u)).toNat=48+u:=by simp;omega
   omega
  ·rcases List.mem_append.1 h with h|h
   ·exact jdd k _ b h
   ·rw[List.mem_singleton] at h
    subst h
    have:(UInt8.ofNat (48+u%10)).toNat=48+u%10:=by simp;omega
    omega
theorem jde {n:Int} (h:0≤n):(10:UInt8)∉itoaK n∧(32:UInt8)∉itoaK n:=by
 rw[jbv h]
 refine⟨fun hm=>?_,fun hm=>?_⟩
 ·have:=jdd _ _ _ hm;simp at this
 ·have:=jdd _ _ _ hm;simp at this
theorem jdf:∀{l:List Int},(∀n∈l,N9 n)→(10:UInt8)∉tailB l
 |[],_=>by simp[tailB]
 | n::l,h=>by
  rw[jd7]
  intro hm
  rcases List.mem_append.1 hm with hm|hm
  ·rcases List.mem_cons.1 hm with hm|hm
   ·exact absurd hm (by decide)
   ·exact (jde (h n (by simp)).1).1 hm
  ·exact jdf (fun n hn=>h n (by simp[hn])) hm
theorem jdg:∀{l:List Int} {w:List UInt8},(∀n∈l,N9 n)→(32:UInt8)∉w→splitK 32 (w++tailB l)=w::l.map itoaK
 |[],w,_,hw=>by
  rw[show tailB []=[] from rfl,List.append_nil,jh1 hw];rfl
 |n::l,w,h,hw=>by
  rw[jd7,List.cons_append,jd2 hw,jdg (fun n hn=>h n (by simp[hn])) (jde (h n (by simp)).1).2];rfl
theorem jdh:∀{l:List Int},(∀n∈l,N9 n)→numsK (l.map itoaK)=some l
 |[],_=>rfl
 |n::l,h=>by
  rw[List.map_cons,numsK,und9 (h n (by simp)),if_pos (h n (by simp)).1,jdh (fun n hn=>h n (by simp[hn]))];rfl
theorem jew {m:Md} {r:Int} {n:Nat} {x rest:List UInt8} (h:(10:UInt8)∉x):pgo (splitK 10 (x++10::rest)) m r n=match lineK m r x with
  |none=> .inl n
  |some (m',r')=>pgo (splitK 10 rest) m' r' (n+1):=by
 rw[jd2 h]
 obtain⟨y,t,hyt⟩:=jcf 10 rest
 rw[hyt,jdb]
 all_goals (cases lineK m r x<;>rfl)
theorem jex {s:Int} {w:List UInt8} (hw:(32:UInt8)∉w∧(10:UInt8)∉w) (hs:sortOf w=s) (h1:s=1∨s=2):∀(l:List (Int×Int)) (m:Md) (r:Int) (n:Nat) (rest:List UInt8),(∀p∈l,N9 p.1∧N9 p.2)→r≤s→
  ∃(r':Int) (n':Nat),r'≤s∧pgo (splitK 10 (l.flatMap (pairB w)++rest)) m r n=pgo (splitK 10 rest) (if s=1 then {m with inits:=m.inits++l } else {m with nexts:=m.nexts++l }) r' n'
 | [],m,r,n,rest,_,hr=>⟨r,n,hr,by
   rw[List.flatMap_nil,List.nil_append]
   congr
   split<;>simp⟩
 | p::l,m,r,n,rest,h,hr=>by
  obtain⟨a,b⟩:=p
  have hp:=h (a,b) (by simp)
  simp only at hp
  have h9:∀n∈[a,b],N9 n:=fun n hn=>by
   simp only[List.mem_cons,List.not_mem_nil,or_false] at hn
   rcases hn with rfl|rfl
   ·exact hp.1
   ·exact hp.2
  have hno:(10:UInt8)∉w++tailB [a,b]:=fun hm=>by
   rcases List.mem_append.1 hm with hm|hm
   ·exact hw.2 hm
   ·exact jdf h9 hm
  have e:((a,b)::l).flatMap (pairB w)++rest=(w++tailB [a,b])++10::(l.flatMap (pairB w)++rest):=by
   rw[List.flatMap_cons,pairB,jbk];simp
  rw[e,jew hno]
  have hk:lineK m r (w++tailB [a,b])=some (addS m s [a,b],s):=by
   unfold lineK
   rw[jdg h9 hw.1]
   simp only
   rw[hs,if_neg (by omega),jdh h9]
   simp only
   rw[if_pos ⟨by unfold manyOf;rw[if_neg (by omega)];rfl,hr⟩]
  rw[hk]
  simp only
  obtain⟨r',n',h2,h3⟩:=jex hw hs h1 l (addS m s [a,b]) s (n+1) rest (fun p hp=>h p (by simp[hp])) (Int.le_refl s)
  refine⟨r',n',h2,?_⟩
  rw[h3]
  congr 1
  rcases h1 with rfl|rfl
  ·simp[addS]
  ·simp[addS]
theorem jey {s:Int} {w:List UInt8} (hw:(32:UInt8)∉w∧(10:UInt8)∉w) (hs:sortOf w=s) (h1:s=3∨s=4):∀(l:List Int) (m:Md) (r:Int) (n:Nat) (rest:List UInt8),(∀p∈l,N9 p)→r≤s→
  ∃(r':Int) (n':Nat),r'≤s∧pgo (splitK 10 (l.flatMap (oneB w)++rest)) m r n=pgo (splitK 10 rest) (if s=3 then {m with bads:=m.bads++l } else {m with holds:=m.holds++l }) r' n'
 | [],m,r,n,rest,_,hr=>⟨r,n,hr,by
   rw[List.flatMap_nil,List.nil_append]
   congr
   split<;>simp⟩
 | a::l,m,r,n,rest,h,hr=>by
  have h9:∀n∈[a],N9 n:=fun n hn=>by
   rw[List.mem_singleton] at hn
   subst hn
   exact h _ (by simp)
  have hno:(10:UInt8)∉w++tailB [a]:=fun hm=>by
   rcases List.mem_append.1 hm with hm|hm
   ·exact hw.2 hm
   ·exact jdf h9 hm
  have e:(a::l).flatMap (oneB w)++rest=(w++tailB [a])++10::(l.flatMap (oneB w)++rest):=by
   rw[List.flatMap_cons,oneB,jbk];simp
  rw[e,jew hno]
  have hk:lineK m r (w++tailB [a])=some (addS m s [a],s):=by
   unfold lineK
   rw[jdg h9 hw.1]
   simp only
   rw[hs,if_neg (by omega),jdh h9]
   simp only
   rw[if_pos ⟨by unfold manyOf;rw[if_pos (by omega)];rfl,hr⟩]
  rw[hk]
  simp only
  obtain⟨r',n',h2,h3⟩:=jey hw hs h1 l (addS m s [a]) s (n+1) rest (fun p hp=>h p (by simp[hp])) (Int.le_refl s)
  refine⟨r',n',h2,?_⟩
  rw[h3]
  congr 1
  rcases h1 with rfl|rfl
  ·simp[addS]
  ·simp[addS]
theorem shape6 {k:Int} (h:shapeOf k=some 6):k=21:=by
 unfold shapeOf at h
 repeat' split at h
 all_goals first|omega|(simp at h)|(cases h;omega)
theorem jnx {x:Nd} (ha:takesOf x.k≤0→x.a=0) (hb:takesOf x.k≤1→x.b=0) (hc:takesOf x.k≤2→x.c=0) (hn:¬(x.k=1∨x.k=21)→x.n=0):mkNd x.k (numsN x)=x∧((numsN x).length:Int)=wantK x.k:=by
 obtain⟨k,w,a,b,c,n⟩:=x
 simp only at *
 unfold mkNd numsN argsL wantK
 simp only
 rcases jb5 k with ht|ht|ht|ht<;>rw[ht] at ha hb hc ⊢ <;>by_cases h:k=1∨k=21<;>simp[h]<;>omega
theorem ji9 {L:List Nd} {i:Nat} {x:Nd} (h:nodeE L (i:Int) x=0) (hi:i≤1000):(∀n∈numsN x,N9 n)∧mkNd x.k (numsN x)=x∧((numsN x).length:Int)=wantK x.k∧1≤x.k∧x.k<24:=by
 have key:(1≤x.k∧x.k<24)∧N9 x.w∧(if 0<takesOf x.k then N9 x.a else x.a=0)∧(if 1<takesOf x.k then N9 x.b else x.b=0)∧(if 2<takesOf x.k then N9 x.c else x.c=0)∧(if x.k=1∨x.k=21 then N9 x.n else x.n=0):=by
  unfold nodeE at h
  split at h
  ·cases h
  rename_i hk
  split at h
  ·cases h
  rename_i hw
  have hw:=Classical.not_not.1 hw
  refine⟨by omega,⟨by omega,by omega⟩,?_⟩
  split at h
  ·rename_i h3
   have ht:=jhe (k:=x.k) (by omega)
   rw[ht,if_neg (by omega),if_neg (by omega),if_neg (by omega)]
   split at h
   ·cases h
   rename_i h4
   split at h
   ·cases h
   rename_i h5
   simp only[not_or,Classical.not_not,not_and] at h5
   refine⟨h5.2.1,h5.2.2.1,h5.2.2.2,?_⟩
   by_cases h1:x.k=1
   ·rw[if_pos (.inl h1)]
    have:=Classical.not_not.1 (fun hn=>h4 ⟨h1,hn⟩)
    have hp:2^x.w.toNat≤2^8:=Nat.pow_le_pow_right (by decide) (by omega)
    have h8:(2:Nat)^8=256:=by decide
    exact⟨this.1,by omega⟩
   ·rw[if_neg (by omega)]
    exact h5.1 h1
  ·split at h
   ·cases h
   rename_i h3 hb
   unfold badArgs badJ at hb
   simp only[not_or] at hb
   obtain⟨b0,b1,b2⟩:=hb
   refine⟨?_,?_,?_,?_⟩
   ·split
    ·rename_i q;rw[if_pos q] at b0;exact⟨by omega,by omega⟩
    ·rename_i q;rw[if_neg q] at b0;exact Classical.not_not.1 b0
   ·split
    ·rename_i q;rw[if_pos q] at b1;exact⟨by omega,by omega⟩
    ·rename_i q;rw[if_neg q] at b1;exact Classical.not_not.1 b1
   ·split
    ·rename_i q;rw[if_pos q] at b2;exact⟨by omega,by omega⟩
    ·rename_i q;rw[if_neg q] at b2;exact Classical.not_not.1 b2
   ·unfold fitE at h
    split at h
    ·cases h
    rename_i s hs
    split at h
    ·cases h
    split at h
    ·cases h
    rename_i hwo
    have hwo:=(Classical.not_not.1 hwo).1
    split at h
    ·rename_i hf
     by_cases h6:s=6
     ·subst h6
      have hk21:=shape6 hs
      rw[if_pos (.inr hk21)]
      unfold fitsOf at hf
      rw[if_neg (by simp),if_neg (by decide),if_neg (by decide),if_neg (by decide),if_neg (by decide),if_neg (by decide),if_pos rfl] at hf
      simp only[Bool.and_eq_true,decide_eq_true_eq] at hf
      have ht21:takesOf x.k=1:=by rw[hk21];decide
      unfold wOk at hwo
      rw[if_pos (by omega)] at hwo
      have e:IntKind.i64.wrap (wdJ L x.k 0 x.a-x.w)=wdJ L x.k 0 x.a-x.w:=jas (by omega) (by omega)
      rw[e] at hf
      exact⟨hf.1,by omega⟩
     ·have hn0:x.n=0:=by
       unfold fitsOf at hf
       by_cases hn:x.n=0
       ·exact hn
       ·rw[if_pos ⟨hn,h6⟩] at hf;cases hf
      split
      ·rw[hn0];exact⟨by omega,by omega⟩
      ·exact hn0
    ·cases h
 obtain⟨k1,k2,k3,k4,k5,k6⟩:=key
 have hm:=jnx (x:=x) (fun q=>by rw[if_neg (by omega)] at k3;exact k3) (fun q=>by rw[if_neg (by omega)] at k4;exact k4) (fun q=>by rw[if_neg (by omega)] at k5;exact k5) (fun q=>by rw[if_neg q] at k6;exact k6)
 refine⟨?_,hm.1,hm.2,k1.1,k1.2⟩
 intro n hn
 unfold numsN argsL at hn
 rw[List.cons_append,List.mem_cons,List.mem_append] at hn
 rcases hn with rfl|hn|hn
 ·exact k2
 ·rcases jb5 x.k with ht|ht|ht|ht<;>rw[ht] at hn k3 k4 k5
  ·simp at hn
  ·simp at hn;subst hn;exact k3
  ·simp at hn;rcases hn with rfl|rfl
   ·exact k3
   ·exact k4
  ·simp at hn;rcases hn with rfl|rfl|rfl
   ·exact k3
   ·exact k4
   ·exact k5
 ·split at hn
  ·rename_i q
   rw[if_pos q] at k6
   rw[List.mem_singleton] at hn
   subst hn
   exact k6
  ·cases hn
end Go.Lw
end

/-! What is printed is parsed as it was. -/
section
namespace Go.Lw
open Go
theorem jny {k:Int} (h:1≤k∧k<24):kindOf (wordB k)=k∧(32:UInt8)∉wordB k∧(10:UInt8)∉wordB k:=by
 have hk:k=1∨k=2∨k=3∨k=4∨k=5∨k=6∨k=7∨k=8∨k=9∨k=10∨k=11∨k=12∨k=13∨k=14∨k=15∨k=16∨k=17∨k=18∨k=19∨k=20∨k=21∨k=22∨k=23:=by omega
 rcases hk with rfl|rfl|rfl|rfl|rfl|rfl|rfl|rfl|rfl|rfl|rfl|rfl|rfl|rfl|rfl|rfl|rfl|rfl|rfl|rfl|rfl|rfl|rfl<;>decide
theorem jnz {n:Int} (h:0≤n):sortOf (itoaK n)<1:=by
 have key:∀b r,(b:UInt8).toNat<48∨57<b.toNat→itoaK n≠b::r:=by
  intro b r hb e
  rw[jbv h] at e
  have:=jdd 20 n.toNat b (by rw[e];simp)
  omega
 unfold sortOf sortsL
 simp only[idxF,if_neg (key 105 _ (by decide)),if_neg (key 110 _ (by decide)),if_neg (key 98 _ (by decide)),if_neg (key 104 _ (by decide))]
 split<;>decide
theorem jia:∀(l:List Nd) (m:Md) (i n:Nat) (rest:List UInt8),m.nodes.length=i→i+l.length≤1000→(∀x∈l,(∀n∈numsN x,N9 n)∧mkNd x.k (numsN x)=x∧((numsN x).length:Int)=wantK x.k∧1≤x.k∧x.k<24)→
  ∃n',pgo (splitK 10 (nodesB i l++rest)) m 0 n=pgo (splitK 10 rest) {m with nodes:=m.nodes++l } 0 n'
 |[],m,i,n,rest,_,_,_=>⟨n,by rw[nodesB,List.nil_append,List.append_nil]⟩
 | x::l,m,i,n,rest,hm,hi,h=>by
  obtain⟨h1,h2,h3,h4⟩:=h x (by simp)
  obtain⟨w1,w2,w3⟩:=jny h4
  have hI:N9 (i:Int):=⟨by omega,by simp at hi;omega⟩
  have hno:(10:UInt8)∉((itoaK (i:Int)++[32])++wordB x.k)++tailB (numsN x):=fun hmem=>by
   simp only[List.mem_append,List.mem_singleton] at hmem
   rcases hmem with ((q|q)|q)|q
   ·exact (jde hI.1).1 q
   ·exact absurd q (by decide)
   ·exact w3 q
   ·exact jdf h1 q
  have e:nodesB i (x::l)++rest=(((itoaK (i:Int)++[32])++wordB x.k)++tailB (numsN x))++10::(nodesB (i+1) l++rest):=by
   rw[nodesB,nodeB,jbk];simp
  rw[e,jew hno]
  have hsp:splitK 32 (((itoaK (i:Int)++[32])++wordB x.k)++tailB (numsN x))=itoaK (i:Int)::wordB x.k::(numsN x).map itoaK:=by
   have e2:((itoaK (i:Int)++[32])++wordB x.k)++tailB (numsN x)=itoaK (i:Int)++32::(wordB x.k++tailB (numsN x)):=by simp
   rw[e2,jd2 (jde hI.1).2,jdg h1 w2]
  have hk:lineK m 0 (((itoaK (i:Int)++[32])++wordB x.k)++tailB (numsN x))=some (addN m x,0):=by
   unfold lineK
   rw[hsp]
   simp only
   rw[if_pos (jnz hI.1),jcg,und9 hI,w1,jdh h1,if_pos ⟨by rw[hm],by decide,by omega⟩]
   simp only
   rw[if_pos h3,h2]
   rfl
  rw[hk]
  simp only
  obtain⟨n',h5⟩:=jia l (addN m x) (i+1) (n+1) rest (by simp[addN,hm]) (by simp at hi;omega) (fun y hy=>h y (by simp[hy]))
  refine⟨n',?_⟩
  rw[h5]
  simp[addN]
theorem jez {L:List Nd} {f:List Bool} {b:Bool}:∀{l:List (Int×Int)},pairsE L f b l=0→∀p∈l,isNo L p.1∧isNo L p.2
 |[],_,p,hp=>by cases hp
 | q ::l,h,p,hp=>by
  rw[pairsE] at h
  split at h
  ·rename_i h0
   rcases List.mem_cons.1 hp with rfl|hp
   ·unfold pairE at h0
    split at h0
    ·cases h0
    ·rename_i hn
     simp only[not_or,Classical.not_not] at hn
     exact⟨hn.1,hn.2.1⟩
   ·exact jez h p hp
  ·contradiction
theorem jf0 {m:Md} (h:checkE m=0):m.nodes.length≤80∧nodesE m.nodes 0 m.nodes=0∧(∀p∈m.inits,isNo m.nodes p.1∧isNo m.nodes p.2)∧(∀p∈m.nexts,isNo m.nodes p.1∧isNo m.nodes p.2)∧(∀a∈m.bads,isNo m.nodes a)∧(∀a∈m.holds,isNo m.nodes a):=by
 unfold checkE at h
 split at h
 ·cases h
 rename_i h1
 split at h
 ·contradiction
 rename_i h2
 have h2:=Classical.not_not.1 h2
 split at h
 ·cases h
 split at h
 ·contradiction
 rename_i h4
 have h4:=Classical.not_not.1 h4
 unfold pairsAll at h4
 split at h4
 ·contradiction
 rename_i h5
 have h5:=Classical.not_not.1 h5
 split at h4
 ·contradiction
 rename_i h6
 have h6:=Classical.not_not.1 h6
 unfold marksE at h
 split at h
 ·cases h
 split at h
 ·cases h
 rename_i h7
 have h8:∀a∈m.bads++m.holds,isNo m.nodes a:=by
  intro a ha
  refine Classical.byContradiction fun hn=>h7 ?_
  rw[List.any_eq_true]
  exact⟨a,ha,by simp[hn]⟩
 exact⟨by omega,h2,jez h5,jez h6,fun a ha=>h8 a (by simp[ha]),fun a ha=>h8 a (by simp[ha])⟩
theorem jo0 {m:Md} (h:checkE m=0) (hl:(modelB m).length≤10000):parseE (modelB m)=(m,0,0):=by
 obtain⟨c1,c2,c3,c4,c5,c6⟩:=jf0 h
 have n9:∀a,isNo m.nodes a→N9 a:=fun a ha=>by
  unfold isNo at ha
  exact⟨ha.1,by omega⟩
 have hno:∀x∈m.nodes,(∀n∈numsN x,N9 n)∧mkNd x.k (numsN x)=x∧((numsN x).length:Int)=wantK x.k∧1≤x.k∧x.k<24:=by
  intro x hx
  obtain⟨j,hj⟩:=List.getElem?_of_mem hx
  have hjl:=(List.getElem?_eq_some_iff.1 hj).1
  exact ji9 (jcd c2 j x hj) (by omega)
 have hp:pgo (splitK 10 (modelB m)) m0 0 1= .inr m:=by
  unfold modelB
  simp only[List.append_assoc]
  obtain⟨n1,e1⟩:=jia m.nodes m0 0 1 (m.inits.flatMap (pairB [105,110,105,116])++(m.nexts.flatMap (pairB [110,101,120,116])++(m.bads.flatMap (oneB [98,97,100])++m.holds.flatMap (oneB [104,111,108,100])))) rfl (by omega) hno
  rw[e1]
  obtain⟨r2,n2,l2,e2⟩:=jex (s:=1) (w:=[105,110,105,116]) (by decide) (by decide) (.inl rfl) m.inits {m0 with nodes:=m0.nodes++m.nodes } 0 n1 (m.nexts.flatMap (pairB [110,101,120,116])++(m.bads.flatMap (oneB [98,97,100])++m.holds.flatMap (oneB [104,111,108,100]))) (fun p hp=>⟨n9 _ (c3 p hp).1,n9 _ (c3 p hp).2⟩) (by decide)
  rw[e2,if_pos rfl]
  obtain⟨r3,n3,l3,e3⟩:=jex (s:=2) (w:=[110,101,120,116]) (by decide) (by decide) (.inr rfl) m.nexts {m0 with nodes:=m0.nodes++m.nodes,inits:=m0.inits++m.inits } r2 n2 (m.bads.flatMap (oneB [98,97,100])++m.holds.flatMap (oneB [104,111,108,100])) (fun p hp=>⟨n9 _ (c4 p hp).1,n9 _ (c4 p hp).2⟩) (by omega)
  rw[e3,if_neg (by decide)]
  obtain⟨r4,n4,l4,e4⟩:=jey (s:=3) (w:=[98,97,100]) (by decide) (by decide) (.inl rfl) m.bads {m0 with nodes:=m0.nodes++m.nodes,inits:=m0.inits++m.inits,nexts:=m0.nexts++m.nexts } r3 n3 (m.holds.flatMap (oneB [104,111,108,100])) (fun p hp=>n9 _ (c5 p hp)) (by omega)
  rw[e4,if_pos rfl]
  obtain⟨r5,n5,l5,e5⟩:=jey (s:=4) (w:=[104,111,108,100]) (by decide) (by decide) (.inr rfl) m.holds {m0 with nodes:=m0.nodes++m.nodes,inits:=m0.inits++m.inits,nexts:=m0.nexts++m.nexts,bads:=m0.bads++m.bads } r4 n4 [] (fun p hp=>n9 _ (c6 p hp)) (by omega)
  rw[List.append_nil] at e5
  rw[e5,if_neg (by decide),show splitK 10 []=[[]] from rfl,jch,if_pos rfl]
  rfl
 unfold parseE
 rw[if_neg (by omega),hp]
 simp only
 rw[if_pos h]
end Go.Lw
end

/-! What is parsed was printed so. -/
section
namespace Go.Lw
open Go
theorem jf1 (c:UInt8):∀(l:List UInt8) (w:List UInt8) (r:List (List UInt8)),splitK c l=w::r→l=w++r.flatMap (fun y=>c::y)
 |[],w,r,h=>by
  rw[splitK] at h
  injection h with h1 h2
  subst h1;subst h2;rfl
 | b::l,w,r,h=>by
  rw[splitK] at h
  split at h
  ·rename_i hb
   injection h with h1 h2
   subst h1;subst hb
   obtain⟨y,t,hy⟩:=jcf b l
   rw[hy] at h2
   subst h2
   have:=jf1 b l y t hy
   rw[List.nil_append,List.flatMap_cons,List.cons_append,←this]
  ·obtain⟨y,t,hy⟩:=jcf c l
   rw[hy] at h
   simp only at h
   injection h with h1 h2
   subst h1;subst h2
   have:=jf1 c l y t hy
   rw[List.cons_append,←this]
theorem jf2:∀{l:List (List UInt8)} {v:List Int},numsK l=some v→l.flatMap (fun y=>32::y)=tailB v
 |[],v,h=>by cases h;rfl
 | x::r,v,h=>by
  rw[numsK] at h
  split at h
  ·rename_i h0
   simp only[Option.map_eq_some_iff] at h
   obtain⟨u,hu,rfl⟩:=h
   rw[List.flatMap_cons,jd7,jf2 hu]
   rw[←(jd3 h0).1]
  ·cases h
theorem jib {w:List UInt8}:∀{l:List (List UInt8)} {i:Int},idxF w l i≠ -1→l[(idxF w l i-i).toNat]?=some w∧i≤idxF w l i
 |[],i,h=>absurd rfl h
 | x::l,i,h=>by
  rw[idxF] at h ⊢
  split
  ·rename_i hw
   subst hw
   exact⟨by simp,Int.le_refl i⟩
  ·rename_i hw
   rw[if_neg hw] at h
   obtain⟨h1,h2⟩:=jib h
   refine⟨?_,by omega⟩
   rw[show (idxF w l (i+1)-i).toNat=(idxF w l (i+1)-(i+1)).toNat+1 by omega,List.getElem?_cons_succ]
   exact h1
theorem jo1 {u:List UInt8} (h:kindOf u≠0):wordB (kindOf u)=u:=by
 have h1:idxF u (wordsL.drop 1) 0≠ -1:=fun e=>h (by unfold kindOf;rw[e];rfl)
 obtain⟨h2,h3⟩:=jib h1
 rw[List.getElem?_drop] at h2
 unfold wordB kindOf
 rw[List.getD_eq_getElem?_getD,show (idxF u (wordsL.drop 1) 0+1).toNat=1+(idxF u (wordsL.drop 1) 0-0).toNat by omega,h2]
 rfl
theorem jo2 {k:Int} {v:List Int} (h:(v.length:Int)=wantK k):numsN (mkNd k v)=v:=by
 unfold wantK at h
 unfold mkNd numsN argsL
 simp only
 unfold wantK
 rcases jb5 k with ht|ht|ht|ht<;>rw[ht] at h ⊢ <;>by_cases hc:k=1∨k=21
 all_goals first|rw[if_pos hc] at h ⊢ |rw[if_neg hc] at h ⊢
 all_goals
  try simp only[hc,if_true,if_false] at h ⊢
  match v,h with
  |[],h=>simp at h
  |[a],h=>first|(simp at h;done)|simp
  |[a,b],h=>first|(simp at h;done)|simp
  |[a,b,c],h=>first|(simp at h;done)|simp
  |[a,b,c,d],h=>first|(simp at h;done)|simp
  |[a,b,c,d,e],h=>first|(simp at h;done)|simp
  |a::b::c::d::e::f::t,h=>simp at h;omega
structure Ord (m:Md) (r:Int):Prop where
 i:r<1→m.inits=[]
 n:r<2→m.nexts=[]
 b:r<3→m.bads=[]
 h:r<4→m.holds=[]
theorem jic:∀(l:List Nd) (x:Nd) (i:Nat),nodesB i (l++[x])=nodesB i l++nodeB (i+l.length) x
 |[],x,i=>by simp[nodesB]
 |y::l,x,i=>by
  rw[List.cons_append,nodesB,nodesB,jic l x (i+1),List.append_assoc,List.length_cons,show i+1+l.length=i+(l.length+1) by omega]
theorem jo3 {w:List UInt8} (h:¬sortOf w<1):(w=[105,110,105,116]∧sortOf w=1)∨(w=[110,101,120,116]∧sortOf w=2)∨(w=[98,97,100]∧sortOf w=3)∨(w=[104,111,108,100]∧sortOf w=4):=by
 by_cases h1:w=[105,110,105,116]
 ·left;subst h1;exact⟨rfl,by decide⟩
 by_cases h2:w=[110,101,120,116]
 ·right;left;subst h2;exact⟨rfl,by decide⟩
 by_cases h3:w=[98,97,100]
 ·right;right;left;subst h3;exact⟨rfl,by decide⟩
 by_cases h4:w=[104,111,108,100]
 ·right;right;right;subst h4;exact⟨rfl,by decide⟩
 refine absurd ?_ h
 unfold sortOf sortsL
 simp only[idxF,if_neg h1,if_neg h2,if_neg h3,if_neg h4]
 split<;>decide
theorem jo4 {m m':Md} {r r':Int} {x:List UInt8} (ho:Ord m r) (hk:lineK m r x=some (m',r')):modelB m'=modelB m++(x++[10])∧Ord m' r':=by
 unfold lineK at hk
 split at hk
 ·cases hk
 rename_i w rest hs
 have hj:=jf1 32 x w rest hs
 split at hk
 ·simp only[Option.map_eq_some_iff,Prod.mk.injEq] at hk
  obtain⟨y,hy,rfl,rfl⟩:=hk
  match rest,hy,hj with
  |[],hy,_=>exact absurd hy (by simp[nodeK])
  | u ::tl,hy,hj=>
   rw[jcg] at hy
   split at hy
   ·rename_i hc
    split at hy
    ·rename_i v hv
     split at hy
     ·rename_i hl
      cases hy
      have e1:=ho.i (by omega)
      have e2:=ho.n (by omega)
      have e3:=ho.b (by omega)
      have e4:=ho.h (by omega)
      refine⟨?_,⟨fun h=>ho.i h,fun h=>ho.n h,fun h=>ho.b h,fun h=>ho.h h⟩⟩
      have hw:w=itoaK (m.nodes.length:Int):=by
       have:=(jd3 (x:=w) (by omega)).1
       rw[hc.1] at this
       exact this
      have hx:x++[10]=nodeB m.nodes.length (mkNd (kindOf u) v):=by
       unfold nodeB
       rw[jbk,jo2 hl,show (mkNd (kindOf u) v).k=kindOf u from rfl,jo1 hc.2.2,←jf2 hv,←hw,hj]
       simp
      rw[hx]
      unfold modelB addN
      simp only[e1,e2,e3,e4]
      rw[jic]
      simp
     ·cases hy
    ·cases hy
   ·cases hy
 ·rename_i hs1
  split at hk
  ·rename_i v hv
   split at hk
   ·rename_i hc
    simp only[Option.some.injEq,Prod.mk.injEq] at hk
    obtain⟨rfl,rfl⟩:=hk
    have hx:x++[10]=lineB w v:=by rw[jbk,←jf2 hv,←hj]
    rw[hx]
    obtain⟨hlen,hr⟩:=hc
    rcases jo3 hs1 with ⟨hw,e⟩|⟨hw,e⟩|⟨hw,e⟩|⟨hw,e⟩<;>rw[e] at hlen hr ⊢ <;>subst hw
    ·have e2:=ho.n (by omega)
     have e3:=ho.b (by omega)
     have e4:=ho.h (by omega)
     match v,hlen with
     |[a,b],_=>
      refine⟨?_,⟨fun h=>by omega,fun h=>by simp[addS,e2],fun h=>by simp[addS,e3],fun h=>by simp[addS,e4]⟩⟩
      simp[modelB,addS,e2,e3,e4,pairB]
    ·have e3:=ho.b (by omega)
     have e4:=ho.h (by omega)
     match v,hlen with
     |[a,b],_=>
      refine⟨?_,⟨fun h=>by omega,fun h=>by omega,fun h=>by simp[addS,e3],fun h=>by simp[addS,e4]⟩⟩
      simp[modelB,addS,e3,e4,pairB]
    ·have e4:=ho.h (by omega)
     match v,hlen with
     |[a],_=>
      refine⟨?_,⟨fun h=>by omega,fun h=>by omega,fun h=>by omega,fun h=>by simp[addS,e4]⟩⟩
      simp[modelB,addS,e4,oneB]
    ·match v,hlen with
     |[a],_=>
      refine⟨?_,⟨fun h=>by omega,fun h=>by omega,fun h=>by omega,fun h=>by omega⟩⟩
      simp[modelB,addS,oneB]
   ·cases hk
  ·cases hk
theorem jid:∀(k:Nat) (s:List UInt8) (m m':Md) (r:Int) (n:Nat),(splitK 10 s).length=k→Ord m r→pgo (splitK 10 s) m r n= .inr m'→modelB m'=modelB m++s
 |0,s,_,_,_,_,h,_,_=>by
  have:=(jbj 10 s).1
  omega
 | k+1,s,m,m',r,n,h,ho,hp=>by
  rcases jet 10 s with ⟨c1,c2⟩|⟨x,rest,c1,c2,c3⟩
  ·rw[c2,jch] at hp
   split at hp
   ·rename_i h0
    cases hp
    rw[h0,List.append_nil]
   ·cases hp
  ·have hkl:(splitK 10 rest).length=k:=by rw[c2] at h;simpa using h
   obtain⟨y,t,hyt⟩:=jcf 10 rest
   rw[c2,hyt,jdb] at hp
   cases hk:lineK m r x with
   |none=>rw[hk] at hp;cases hp
   |some p=>
    obtain⟨m1,r1⟩:=p
    rw[hk] at hp
    simp only at hp
    obtain⟨h1,h2⟩:=jo4 ho hk
    rw[←hyt] at hp
    rw[jid k rest m1 m' r1 (n+1) hkl h2 hp,h1,c3]
    simp
theorem jo5 {s:List UInt8} (h:(parseE s).2.2=0):checkE (parseE s).1=0∧modelB (parseE s).1=s:=by
 unfold parseE at h ⊢
 split at h
 ·cases h
 rename_i h1
 rw[if_neg h1]
 cases hp:pgo (splitK 10 s) m0 0 1 with
 |inl e=>rw[hp] at h;cases h
 | inr m=>
  rw[hp] at h
  simp only at h ⊢
  split at h
  ·rename_i hc
   rw[if_pos hc]
   refine⟨hc,?_⟩
   have:=jid _ s m0 m 0 1 rfl ⟨fun _=>rfl,fun _=>rfl,fun _=>rfl,fun _=>rfl⟩ hp
   rw[this]
   rfl
  ·rename_i hc
   exact absurd h hc
end Go.Lw
end

/-! Models out of texts: the document's ParseModel: a line's kind and numbers. -/
section
namespace Go.Lw
open Go
section
variable {gh:List GObj} {m:Md} {r:Int}
abbrev v3 (L:List PV) (r i kd:Int) (ws:List (List UInt8)) (acc:List Int) (f:Bool) (k:Nat) (M:List PV) (gh:List GObj):St:=
 ⟨[(2,.ptr false 0 0),(5,.sl false 1 L),(6,.ptr false 1 0),(7,I r),(8,I i),(9,.sl false 1 (SL8 ws)),(10,I kd),(12,.sl true 1 (acc.map I)),(13,B f),(14,I (k:Nat))],[nilM,M],gh⟩
end
end Go.Lw
end

/-! Models out of texts: the document's ParseModel: what a line changes. -/
section
namespace Go.Lw
open Go
section
variable {gh:List GObj} {m:Md} {L:List PV} {i:Int}
abbrev e5 (L:List PV) (t i:Int):List (Nat×PV):=[(2,.ptr false 0 0),(5,.sl false 1 L),(6,.ptr false 1 0),(7,I t),(8,I i)]
end
end Go.Lw
end
