/-
  The texts that the proof stands on, part 16.
-/
import Derived.Test.YtmodipglnngghacGreatDoorTextParsesO
import Derived.Lib.AtoiAllCases
set_option linter.unusedVariables false
set_option linter.unusedSimpArgs false
set_option linter.unnecessarySimpa false

/-! Numerals: the program's number of digits and the document's Undigit are one. -/
section
namespace Go.Lw
open Go
theorem jm3:∀{a b:Nat},a≤b→(10:Int)^a≤10^b:=by
 intro a b h
 have:=Nat.pow_le_pow_right (n:=10) (by decide) h
 have e:∀k:Nat,((10^k:Nat):Int)=(10:Int)^k:=fun k=>by simp
 rw[←e,←e]
 exact Int.ofNat_le.2 this
theorem jm4:∀(j k u:Nat),u<10^(j+1)→u<10^(k+1)→digK (j+1) u=digK (k+1) u
 |0,k,u,hj,_=>by
  have h:u<10:=by simpa using hj
  rw[digK,if_pos h,digK,if_pos h]
 | j+1,k,u,hj,hk=>by
  rw[digK]
  conv=>rhs;rw[digK]
  by_cases h:u<10
  ·rw[if_pos h,if_pos h]
  ·rw[if_neg h,if_neg h]
   cases k with
   |zero=>simp at hk;omega
   |succ k=>
    rw[jm4 j k (u/10) (by rw[Nat.pow_succ] at hj;omega) (by rw[Nat.pow_succ] at hk;omega)]
theorem jjl:∀(l:List UInt8) (n:Int) (b:UInt8),0≤n→undF n (l++[b])=if undF n l= -1 then -1 else if b.toNat<48∨57<b.toNat then -1 else 10*undF n l+b.toNat-48
 |[],n,b,h=>by
  have hn:¬(undF n []= -1):=by simp only[undF];omega
  rw[if_neg hn]
  simp only[List.nil_append,undF]
 | c::l,n,b,h=>by
  rw[List.cons_append]
  by_cases hc:c.toNat<48∨57<c.toNat
  ·rw[jgx hc,jgx hc,if_pos rfl]
  ·rw[jha hc,jha hc]
   exact jjl l _ b (by omega)
theorem jm5:∀(k u:Nat),u<10^(k+1)→undF 0 (digK (k+1) u)=(u:Int)
 | k,u,h=>by
  rw[digK]
  by_cases hu:u<10
  ·rw[if_pos hu]
   have hb:(UInt8.ofNat (48+u)).toNat=48+u:=by simp;omega
   rw[jha (by omega)]
   simp only[undF]
   omega
  ·rw[if_neg hu]
   cases k with
   |zero=>simp at h;omega
   |succ k=>
    have ih:=jm5 k (u/10) (by rw[Nat.pow_succ] at h;omega)
    have hb:(UInt8.ofNat (48+u%10)).toNat=48+u%10:=by simp;omega
    rw[jjl _ _ _ (by omega),ih,if_neg (by omega),if_neg (by omega)]
    omega
theorem jrz:∀(k u:Nat),digK (k+1) u≠[]:=by
 intro k u
 rw[digK]
 split<;>simp
theorem jm6:∀(k u:Nat),0<u→u<10^(k+1)→∃b r,digK (k+1) u=b::r∧b≠48
 | k,u,h0,h=>by
  rw[digK]
  by_cases hu:u<10
  ·rw[if_pos hu]
   refine⟨_,_,rfl,fun e=>?_⟩
   have hb:(UInt8.ofNat (48+u)).toNat=48+u:=by simp;omega
   rw[e] at hb
   simp at hb
   omega
  ·rw[if_neg hu]
   cases k with
   |zero=>simp at h;omega
   |succ k=>
    obtain⟨b,r,e,hb⟩:=jm6 k (u/10) (by omega) (by rw[Nat.pow_succ] at h;omega)
    exact⟨b,r++_,by rw[e];rfl,hb⟩
theorem jjm {n:Int} (h:0≤n):itoaK n=digK 20 n.toNat:=by unfold itoaK;rw[if_neg (by omega)]
theorem js0 {n:Int} (h0:0≤n) (h1:n<10000000000) (hl:(itoaK n).length≤9):undK (itoaK n)=n:=by
 rw[jjm h0] at *
 have hp:n.toNat<10^20:=Nat.lt_of_lt_of_le (by omega:n.toNat<10000000000) (by decide)
 have hu:=jm5 19 n.toNat hp
 unfold undK
 rw[if_neg,hu]
 ·omega
 ·rintro (h|h|⟨h,h2⟩)
  ·exact jrz 19 _ h
  ·omega
  ·by_cases hz:n.toNat=0
   ·rw[hz] at h;simp[digK] at h
   ·obtain⟨b,r,e,hb⟩:=jm6 19 n.toNat (by omega) hp
    rw[e] at h2
    simp at h2
    exact hb h2
theorem jm7:∀(m:Nat) (l:List UInt8),l.length=m+1→m≤18→0≤undF 0 l→(m=0∨l.head?≠some 48)→digK 20 (undF 0 l).toNat=l∧undF 0 l<10^(m+1)∧(l.head?≠some 48→0<undF 0 l)
 | 0, l,hl,_,h0,_=>by
  match l,hl with
  | [b],_=>
   by_cases hb:b.toNat<48∨57<b.toNat
   ·rw[jgx hb] at h0;omega
   ·rw[jha hb]
    simp only[undF]
    have he:(10*0+(b.toNat:Int)-48).toNat=b.toNat-48:=by omega
    refine⟨?_,by omega,fun hh=>?_⟩
    ·rw[he,digK,if_pos (by omega)]
     have:UInt8.ofNat (48+(b.toNat-48))=b:=by
      apply UInt8.toNat_inj.1
      simp;omega
     rw[this]
    ·have:b.toNat≠48:=fun e=>hh (by simp;apply UInt8.toNat_inj.1;simpa using e)
     omega
 | m+1,l,hl,hm,h0,hh=>by
  have hh:l.head?≠some 48:=hh.resolve_left (by omega)
  obtain⟨q,b,rfl⟩:∃q b,l=q++[b]:=⟨l.dropLast,l.getLast (by intro e;simp[e] at hl),(List.dropLast_concat_getLast _).symm⟩
  have hq:q.length=m+1:=by simp at hl;omega
  have hqh:q.head?≠some 48:=by
   match q,hq with
   |c::q,_=>simpa using hh
  rw[jjl _ _ _ (by omega)] at h0 ⊢
  split at h0
  ·omega
  rename_i hq1
  split at h0
  ·omega
  rename_i hb
  rw[if_neg hq1,if_neg hb]
  have hq0:0≤undF 0 q:=by
   have:=jjk (r:=q) (n:=0) (by omega) hq1
   simpa using this
  obtain⟨e1,e2,e3⟩:=jm7 m q hq (by omega) hq0 (.inr hqh)
  have e3:=e3 hqh
  generalize undF 0 q=v at *
  have hv:(10*v+(b.toNat:Int)-48).toNat=10*v.toNat+(b.toNat-48):=by omega
  have hpow:(10:Int)^(m+1+1)=10*10^(m+1):=by rw[Int.pow_succ];omega
  refine⟨?_,by rw[hpow];omega,fun _=>by omega⟩
  rw[hv,digK,if_neg (by omega)]
  have hd:(10*v.toNat+(b.toNat-48))/10=v.toNat:=by omega
  have hmod:(10*v.toNat+(b.toNat-48))%10=b.toNat-48:=by omega
  have hsm:v.toNat<10^(18+1):=by
   have h3:(10:Int)^(m+1)≤10^18:=jm3 (by omega)
   have h4:(10:Int)^18=1000000000000000000:=by decide
   have h5:(10:Nat)^(18+1)=10000000000000000000:=by decide
   omega
  have hf:=jm4 18 19 v.toNat hsm (Nat.lt_trans hsm (by decide))
  rw[hd,hmod,hf,e1]
  have:UInt8.ofNat (48+(b.toNat-48))=b:=by
   apply UInt8.toNat_inj.1
   simp;omega
  rw[this]
theorem jm8 {x:List UInt8} (h0:0≤undK x):x=itoaK (undK x)∧undK x<1000000000∧x.length≤9:=by
 unfold undK at h0 ⊢
 split at h0
 ·omega
 rename_i hc
 rw[if_neg hc]
 simp only[not_or,not_and] at hc
 obtain⟨c1,c2,c3⟩:=hc
 have hl:x.length≠0:=fun e=>c1 (List.eq_nil_of_length_eq_zero e)
 obtain⟨m,hm⟩:∃m,x.length=m+1:=⟨x.length-1,by omega⟩
 obtain⟨e1,e2,-⟩:=jm7 m x hm (by omega) h0 (by
  by_cases h:m=0
  ·exact .inl h
  ·exact .inr (c3 (by omega)))
 refine⟨by rw[jjm h0,e1],?_,by omega⟩
 have h3:(10:Int)^(m+1)≤10^9:=jm3 (by omega)
 have h4:(10:Int)^9=1000000000:=by decide
 omega
theorem jm9:∀(l:List UInt8) (acc:Nat),acc<1000000000000000000→∀v,0≤v→undF (acc:Int) l=v→v<1000000000000000000→Lib.parseUint10 acc l= .ok v.toNat
 |[],acc,_,v,h0,h,_=>by
  simp only[undF] at h
  simp only[Lib.parseUint10]
  congr
  omega
 | c::r,acc,ha,v,h0,h,hv=>by
  by_cases hc:c.toNat<48∨57<c.toNat
  ·rw[jgx hc] at h;omega
  ·rw[jha hc] at h
   have e:(10*(acc:Int)+c.toNat-48)=((acc*10+(c.toNat-48):Nat):Int):=by omega
   rw[e] at h
   have hge:=jjk (r:=r) (n:=((acc*10+(c.toNat-48):Nat):Int)) (by omega) (by omega)
   have h1:(1:Int)≤10^r.length:=Int.pow_pos (by decide)
   have h2:((acc*10+(c.toNat-48):Nat):Int)*1≤((acc*10+(c.toNat-48):Nat):Int)*10^r.length:=Int.mul_le_mul_of_nonneg_left h1 (by omega)
   have hlt:acc*10+(c.toNat-48)<1000000000000000000:=by omega
   rw[Lib.parseUint10,if_pos (by omega),if_neg (by omega),if_neg (by omega)]
   exact jm9 r _ hlt v h0 h hv
theorem jia {x:List UInt8} (h0:0≤undK x):Lib.atoiAll x= .ok (undK x):=by
 obtain⟨-,hs,hl⟩:=jm8 h0
 unfold undK at *
 split at h0
 ·omega
 rename_i hc
 rw[if_neg hc] at hs ⊢
 simp only[not_or,not_and] at hc
 obtain⟨c1,-,-⟩:=hc
 match x,c1 with
 |c::r,_=>
  have hd:¬(c.toNat<48∨57<c.toNat):=fun hb=>by rw[jgx hb] at h0;omega
  have hp:=jm9 (c::r) 0 (by decide) (undF 0 (c::r)) h0 rfl (by omega)
  generalize undF 0 (c::r)=v at *
  unfold Lib.atoiAll
  simp only
  rw[if_neg (by omega)]
  unfold Lib.parseMag
  rw[if_neg (by simp),hp]
  simp only
  rw[if_neg (by omega),if_neg (by omega),if_neg (by omega)]
  congr
  omega
theorem jma:∀(k u:Nat),u<10^(k+1)→u<10^(digK (k+1) u).length
 | k,u,h=>by
  rw[digK]
  by_cases hu:u<10
  ·rw[if_pos hu];simpa using hu
  ·rw[if_neg hu]
   cases k with
   |zero=>simp at h;omega
   |succ k=>
    have ih:=jma k (u/10) (by rw[Nat.pow_succ] at h;omega)
    rw[List.length_append,List.length_singleton,Nat.pow_succ]
    omega
theorem js1 {x:List UInt8} {v:Int} (h0:0≤v) (h1:v≤9223372036854775807) (hl:x.length≤9) (hx:itoaK v=x):undK x=v:=by
 subst hx
 have hd:=jma 19 v.toNat (Nat.lt_of_le_of_lt (by omega:v.toNat≤9223372036854775807) (by decide))
 rw[←jjm h0] at hd
 have hp:10^(itoaK v).length≤10^9:=Nat.pow_le_pow_right (by decide) hl
 have h9:(10:Nat)^9=1000000000:=by decide
 exact js0 h0 (by omega) hl
end Go.Lw
end

/-! Models out of texts: the program's numbers, and its search for a word. -/
section
namespace Go.Lw
open Go
def numsK:List (List UInt8)→Option (List Int)
 |[]=>some []
 |x::r=>if 0≤undK x then (numsK r).map (undK x:: ·) else none
theorem jmt:∀{l:List (List UInt8)} {v:List Int},numsK l=some v→v.length=l.length
 |[],v,h=>by cases h;rfl
 | x::r,v,h=>by
  rw[numsK] at h
  split at h
  ·simp only[Option.map_eq_some_iff] at h
   obtain⟨u,hu,rfl⟩:=h
   simp[jmt hu]
  ·cases h
def idxF (w:List UInt8):List (List UInt8)→Int→Int
 |[],_=> -1
 |x::l,i=>if w=x then i else idxF w l (i+1)
section
variable {gh:List GObj}
theorem jmu {x:List UInt8} (hx:x.length≤3000000):∃v:Int,callL pg 365 [.str (bA x)] gh=some (.tup [I v,B (decide (0≤undK x))],gh)∧(0≤undK x→v=undK x):=by
 have hA:=fun G=>jrs (gh:=G) hx
 have hz:((bA x).size:Nat)=x.length:=jg8 x
 have hne:(ByteArray.toList (bA x))=(ByteArray.toList (bA x)):=rfl
 cases ha:Lib.atoiAll x with
 | ok v=>
  rw[ha] at hA
  simp only at hA
  have hr:=jrr ha
  have hi:=fun G=>jrq (gh:=G) (n:=v) hr.1 hr.2
  refine⟨v,?_,fun h=>?_⟩
  ·have key:(decide (0≤v)&&(decide (x.length≤9)&&decide (itoaK v=x)))=decide (0≤undK x):=by
    by_cases h0:0≤undK x
    ·have h1:=jia h0
     rw[ha] at h1
     injection h1 with h1
     obtain⟨h2,h3,h4⟩:=jm8 h0
     rw[decide_eq_true h0,decide_eq_true (by omega),decide_eq_true h4,decide_eq_true (by rw[h1];exact h2.symm)]
     rfl
    ·rw[decide_eq_false h0]
     by_cases c1:0≤v
     ·by_cases c2:x.length≤9
      ·by_cases c3:itoaK v=x
       ·exact absurd (by rw[js1 c1 hr.2 c2 c3];exact c1) h0
       ·rw[decide_eq_false c3];simp
      ·rw[decide_eq_false c2];simp
     ·rw[decide_eq_false c1];rfl
   refine jfm (fn:=q1o) (s:=⟨[(2,I v),(3,B (decide (0≤undK x)))],[],gh⟩) rfl rfl (q51_ ?h1) ?r1
   case h1=>
    rw[←key]
    have he:(itoaK v==x)=decide (itoaK v=x):=by by_cases h:itoaK v=x<;>simp[h]
    generalize itoaK v=y at *
    simp only[q51]
    simp[hA,hz]
    by_cases c1:0≤v
    ·by_cases c2:x.length≤9
     ·simp[c1,c2,show ((x.length:Nat):Int)≤9 by omega,hi,he]
     ·simp[c1,c2,show ¬((x.length:Nat):Int)≤9 by omega]
    ·simp[c1]
   case r1=>simp[finish,results,q1o,resOfs,resOf,resOk]
  ·have h1:=jia h
   rw[ha] at h1
   injection h1
 | range=>
  rw[ha] at hA
  simp only at hA
  have h0:¬0≤undK x:=fun h=>by rw[jia h] at ha;cases ha
  refine⟨Lib.atoiSat x,?_,fun h=>absurd h h0⟩
  rw[decide_eq_false h0]
  refine jfm (fn:=q1o) (s:=⟨[(2,I (Lib.atoiSat x)),(3,B false)],[],gh⟩) rfl rfl (q51_ ?h3) ?r3
  case h3=>
   simp only[q51]
   simp[hA]
  case r3=>simp[finish,results,q1o,resOfs,resOf,resOk]
 | _ =>
  rw[ha] at hA
  simp only at hA
  have h0:¬0≤undK x:=fun h=>by rw[jia h] at ha;cases ha
  refine⟨0,?_,fun h=>absurd h h0⟩
  rw[decide_eq_false h0]
  refine jfm (fn:=q1o) (s:=⟨[(2,I 0),(3,B false)],[],gh⟩) rfl rfl (q51_ ?h2) ?r2
  case h2=>
   simp only[q51]
   simp[hA]
  case r2=>simp[finish,results,q1o,resOfs,resOf,resOk]
theorem jmv {many:Int} {xs:List (List UInt8)} (hs:∀x∈xs,x.length≤3000000) (hl:xs.length≤3000000):∀(k i:Nat) (acc:List Int),i+k=xs.length→acc.length+k≤3000000→
  runL pg q7j ⟨[(1,I many),(6,.sl true 1 (acc.map I)),(11,.sl false 1 (SL8 xs)),(12,I xs.length),(13,I (i:Int))],[],gh⟩=
   match numsK (xs.drop i) with
   |some v=>some (.normal,⟨[(1,I many),(6,.sl true 1 ((acc++v).map I))],[],gh⟩)
   |none=>some (.ret,⟨[(4,.sl true 1 []),(5,B false)],[],gh⟩)
 |0,i,acc,h,_=>by
  have hlt:¬(i:Int)<(xs.length:Int):=by omega
  rw[List.drop_eq_nil_of_le (by omega),numsK]
  refine (jfr (s1:=?s1) (q52_ ?h1)).trans ?r1
  case h1=>simp only[q52,decide_eq_false hlt,jg3];rfl
  case r1=>simp[keep,stays]
 | k+1,i,acc,h,ha=>by
  have hlt:i<xs.length:=by omega
  have hltI:(i:Int)<(xs.length:Int):=by omega
  have e2:IntKind.i64.wrap ((i:Int)+1)=((i+1:Nat):Int):=by rw[jfp (by omega) (by omega)];omega
  have hx:(SL8 xs)[i]?=some (.str (bA xs[i])):=by simp[List.getElem?_eq_getElem hlt]
  have hr:=hs _ (List.getElem_mem hlt)
  rw[List.drop_eq_getElem_cons hlt,numsK]
  generalize xs[i]=x at *
  obtain⟨v,hv,hv2⟩:=jmu (gh:=gh) hr
  have hD:=decide_eq_true hltI
  by_cases h0:0≤undK x
  ·obtain rfl:=hv2 h0
   rw[if_pos h0]
   rw[decide_eq_true h0] at hv
   have hrec:=jmv (many:=many) hs hl k (i+1) (acc++[undK x]) (by omega) (by simp;omega)
   generalize undK x=u at *
   have hfit:(acc.length+1)*8≤maxBytes:=Nat.le_trans (by omega:(acc.length+1)*8≤24000000) (by decide)
   have heq:(match (numsK (xs.drop (i+1))).map (u:: ·) with
    |some v=>some (IExit.normal,(⟨[(1,I many),(6,.sl true 1 ((acc++v).map I))],[],gh⟩:St))
    |none=>some (.ret,⟨[(4,.sl true 1 []),(5,B false)],[],gh⟩))=(match numsK (xs.drop (i+1)) with
    |some v=>some (IExit.normal,(⟨[(1,I many),(6,.sl true 1 (((acc++[u])++v).map I))],[],gh⟩:St))
    |none=>some (.ret,⟨[(4,.sl true 1 []),(5,B false)],[],gh⟩)):=by
    cases numsK (xs.drop (i+1)) with
    |none=>rfl
    |some v=>simp
   rw[heq]
   generalize SL8 xs=XS at *
   refine jfn (q52_ (s:=⟨[(1,I many),(6,.sl true 1 ((acc++[u]).map I)),(11,.sl false 1 XS),(12,I xs.length),(13,I ((i+1:Nat):Int))],[],gh⟩) ?h2) hrec
   case h2=>
    generalize ((i+1:Nat):Int)=T at *
    generalize (xs.length:Int)=N at *
    have hml:(acc.map I).length=acc.length:=List.length_map _
    rw[←hml] at hfit
    rw[List.map_append]
    generalize acc.map I=A at *
    simp only[q52,hD,jg4]
    simp[hx,hv,apX,hfit,e2]
  ·rw[if_neg h0]
   rw[decide_eq_false h0] at hv
   generalize SL8 xs=XS at *
   refine (lp_ret (q52_ (s:=⟨[(4,.sl true 1 []),(5,B false)],[],gh⟩) ?h3)).trans ?r3
   case h3=>
    generalize (xs.length:Int)=N at *
    generalize acc.map I=A at *
    simp only[q52,hD,jg4]
    simp[hx,hv]
   case r3=>rfl
theorem jmw {many:Int} {xs:List (List UInt8)} (hs:∀x∈xs,x.length≤3000000) (hl:xs.length≤3000000) :
  callL pg 362 [.sl false 1 (SL8 xs),I many] gh=some (.tup [LI ((numsK xs).getD []),B (match numsK xs with|some v=>decide ((v.length:Int)=many)|none=>false)],gh):=by
 have h:=jmv (gh:=gh) (many:=many) hs hl xs.length 0 [] (by omega) (by simp;omega)
 rw[List.drop_zero] at h
 have hxl:(SL8 xs).length=xs.length:=List.length_map _
 rw[←hxl] at h
 generalize SL8 xs=XS at *
 simp only[Int.natCast_zero,List.map_nil] at h
 cases hn:numsK xs with
 |none=>
  rw[hn] at h
  simp only at h
  refine jfm (fn:=q3e) (s:=⟨[(4,.sl true 1 []),(5,B false)],[],gh⟩) rfl rfl (q8j_ ?h1) ?r1
  case h1=>simp[q8j,h]
  case r1=>simp[finish,results,q3e,resOfs,resOf,resOk]
 | some v=>
  rw[hn] at h
  simp only[List.nil_append] at h
  have hvl:=jmt hn
  have hk:runL pg q4g ⟨[(1,I many),(6,.sl true 1 (v.map I))],[],gh⟩=some (.ret,⟨[(4,.sl false 1 (v.map I)),(5,B (decide ((v.length:Int)=many)))],[],gh⟩):=by
   refine qd5_ ?_
   have hml:(v.map I).length=v.length:=List.length_map _
   have e:((v.length:Int)==many)=decide ((v.length:Int)=many):=rfl
   rw[←hml] at e ⊢
   generalize v.map I=V at *
   simp[qd5,e]
  refine jfm (fn:=q3e) (s:=⟨[(4,.sl false 1 (v.map I)),(5,B (decide ((v.length:Int)=many)))],[],gh⟩) rfl rfl (q8j_ ?h2) ?r2
  case h2=>simp[q8j,h,hk]
  case r2=>simp[finish,results,q3e,resOfs,resOf,resOk,jhq]
theorem jmx {w:List UInt8} {xs:List (List UInt8)} {o:Bool} (hl:xs.length≤3000000):∀(k i:Nat),i+k=xs.length→
  runL pg q5u ⟨[(0,.sl false 1 (SL8 xs)),(1,.str (bA w)),(7,I xs.length),(8,I (i:Int))],[],gh⟩=
   if idxF w (xs.drop i) i= -1 then some (.normal,⟨[],[],gh⟩) else some (.ret,⟨[(4,I (idxF w (xs.drop i) i))],[],gh⟩)
 |0,i,h=>by
  have hlt:¬(i:Int)<(xs.length:Int):=by omega
  rw[List.drop_eq_nil_of_le (by omega),idxF,if_pos rfl]
  refine (jfr (s1:=?s1) (q53_ ?h1)).trans ?r1
  case h1=>simp only[q53,decide_eq_false hlt,jg3];rfl
  case r1=>simp[keep]
 | k+1,i,h=>by
  have hlt:i<xs.length:=by omega
  have hltI:(i:Int)<(xs.length:Int):=by omega
  have e2:IntKind.i64.wrap ((i:Int)+1)=((i+1:Nat):Int):=by rw[jfp (by omega) (by omega)];omega
  have hx:(SL8 xs)[i]?=some (.str (bA xs[i])):=by simp[List.getElem?_eq_getElem hlt]
  rw[List.drop_eq_getElem_cons hlt,idxF]
  generalize xs[i]=x at *
  have hD:=decide_eq_true hltI
  by_cases hw:w=x
  ·rw[if_pos hw,if_neg (by omega)]
   have he:(w==x)=true:=by simp[hw]
   generalize SL8 xs=XS at *
   refine lp_ret (q53_ (s:=⟨[(4,I (i:Int))],[],gh⟩) ?h3)
   case h3=>
    generalize (xs.length:Int)=N at *
    simp only[q53,hD,jg4]
    simp[hx,he]
  ·rw[if_neg hw]
   have he:(w==x)=false:=by simp[hw]
   have hrec:=jmx (w:=w) (o:=o) hl k (i+1) (by omega)
   rw[show ((i:Int)+1)=((i+1:Nat):Int) by omega]
   generalize SL8 xs=XS at *
   refine jfn (q53_ (s:=⟨[(0,.sl false 1 XS),(1,.str (bA w)),(7,I xs.length),(8,I ((i+1:Nat):Int))],[],gh⟩) ?h2) hrec
   case h2=>
    generalize ((i+1:Nat):Int)=T at *
    generalize (xs.length:Int)=N at *
    simp only[q53,hD,jg4]
    simp[hx,he,e2]
theorem jmy {w:List UInt8} {xs:List (List UInt8)} (hl:xs.length≤3000000):callL pg 360 [.sl false 1 (SL8 xs),.str (bA w)] gh=some (I (idxF w xs 0),gh):=by
 have h:=jmx (gh:=gh) (w:=w) (o:=false) hl xs.length 0 (by omega)
 rw[List.drop_zero] at h
 have hxl:(SL8 xs).length=xs.length:=List.length_map _
 rw[←hxl] at h
 generalize SL8 xs=XS at *
 simp only[Int.natCast_zero] at h
 by_cases hi:idxF w xs 0= -1
 ·rw[if_pos hi] at h
  rw[hi]
  have hk:runL pg q3x ⟨[],[],gh⟩=some (.ret,⟨[(4,I (-1))],[],gh⟩):=qfd_ rfl
  refine jfm (fn:=q2h) (s:=⟨[(4,I (-1))],[],gh⟩) rfl rfl (q8l_ ?h1) ?r1
  case h1=>simp[q8l,h,hk]
  case r1=>simp[finish,results,q2h,resOfs,resOf,resOk]
 ·rw[if_neg hi] at h
  refine jfm (fn:=q2h) (s:=⟨[(4,I (idxF w xs 0))],[],gh⟩) rfl rfl (q8l_ ?h2) ?r2
  case h2=>simp[q8l,h]
  case r2=>simp[finish,results,q2h,resOfs,resOf,resOk]
end
end Go.Lw
end

/-! Models out of texts: the program's reader of a node's line. -/
section
namespace Go.Lw
open Go
def rdrO (m:Md) (r:Int):GObj:= .cells [.sl true 6 (m.nodes.map nodeV),.sl true 2 (m.inits.map andV),.sl true 2 (m.nexts.map andV),.sl true 1 (m.bads.map I),.sl true 1 (m.holds.map I),I r]
def Gr (gh:List GObj) (m:Md) (r:Int) (J:List GObj):List GObj:=gh++rdrO m r::J
def kindOf (w:List UInt8):Int:=idxF w (wordsL.drop 1) 0+1
def wantK (k:Int):Int:=1+takesOf k+(if k=1∨k=21 then 1 else 0)
def mkNd (k:Int) (v:List Int):Nd:=⟨k,v.getD 0 0,if 0<takesOf k then v.getD 1 0 else 0,if 1<takesOf k then v.getD 2 0 else 0,if 2<takesOf k then v.getD 3 0 else 0,if k=1∨k=21 then v.getD (wantK k-1).toNat 0 else 0⟩
def nodeK (m:Md) (r:Int):List (List UInt8)→Option Nd
 | w::u::rest=>
  if undK w=(m.nodes.length:Int)∧r≤0∧kindOf u≠0 then
   match numsK rest with
   |some v=>if (v.length:Int)=wantK (kindOf u) then some (mkNd (kindOf u) v) else none
   |none=>none
  else none
 |_=>none
theorem jid (m:Md) (r:Int) (w u:List UInt8) (rest:List (List UInt8)):nodeK m r (w::u::rest)=if undK w=(m.nodes.length:Int)∧r≤0∧kindOf u≠0 then
   match numsK rest with
   |some v=>if (v.length:Int)=wantK (kindOf u) then some (mkNd (kindOf u) v) else none
   |none=>none
  else none:=rfl
theorem jju (w:List UInt8):∀(l:List (List UInt8)) (i:Int),idxF w l i= -1∨(i≤idxF w l i∧idxF w l i<i+l.length)
 |[],i=> .inl rfl
 | x::l,i=>by
  rw[idxF]
  split
  ·right;simp;omega
  ·rcases jju w l (i+1) with h|h
   ·exact .inl h
   ·right;simp;omega
theorem jmz (w:List UInt8):0≤kindOf w∧kindOf w<24:=by
 have h:=jju w (wordsL.drop 1) 0
 have e:(wordsL.drop 1).length=23:=rfl
 unfold kindOf
 omega
section
variable {gh J:List GObj} {m:Md} {r:Int}
theorem Gr_get:(Gr gh m r J)[gh.length]?=some (rdrO m r):=by simp[Gr]
abbrev nst (g:Nat) (L:Nat) (k many t:Int) (i:Nat) (v:List Int) (G:List GObj) (cs:List PV):St:=
 ⟨[(0,.ptr true g 0),(7,I k),(8,I many),(9,.sl false 1 (v.map I)),(10,.ptr true L 0),(11,.sl true 1 [.ptr true L 2,.ptr true L 3,.ptr true L 4]),(79,I t),(80,I (i:Int))],[],G++[.cells cs]⟩
theorem jie {g:Nat} {k many t:Int} {i:Nat} {v:List Int} {G:List GObj} {cs:List PV} (h:¬(i:Int)<t) :
  runL pg q25 (nst g G.length k many t i v G cs)=some (.normal,⟨[(0,.ptr true g 0),(7,I k),(8,I many),(9,.sl false 1 (v.map I)),(10,.ptr true G.length 0)],[],G++[.cells cs]⟩):=by
 refine (jfr (s1:=?s1) (q8m_ ?h1)).trans ?r1
 case h1=>simp only[q8m,decide_eq_false h,jg3];rfl
 case r1=>simp[keep,stays]
theorem jhd {g:Nat} {k many t w a b c n:Int} {i:Nat} {v:List Int} {G:List GObj} {s:Option (IExit×St)} (h:(i:Int)<t) (hi:i<3) (hv:i+1<v.length)
  (hr:runL pg q25 (nst g G.length k many t (i+1) v G [I k,I w,if i=0 then I v[i+1] else I a,if i=1 then I v[i+1] else I b,if i=2 then I v[i+1] else I c,I n])=s) (hs:s.isSome=true) :
  runL pg q25 (nst g G.length k many t i v G [I k,I w,I a,I b,I c,I n])=s:=by
 obtain⟨s,rfl⟩:=Option.isSome_iff_exists.1 hs
 have hD:=decide_eq_true h
 have hg:(v.map I)[i+1]?=some (I v[i+1]):=by simp[List.getElem?_eq_getElem hv]
 have e1:IntKind.i64.wrap (1+(i:Int))=((i+1:Nat):Int):=by rw[jfp (by omega) (by omega)];omega
 have e2:IntKind.i64.wrap ((i:Int)+1)=((i+1:Nat):Int):=by rw[jfp (by omega) (by omega)];omega
 refine jfn (q8m_ ?h2) hr
 case h2=>
  unfold nst
  have hG:∀x:PV,(G++[GObj.cells [I k,I w,I a,I b,I c,I n]])[G.length]?=some (.cells [I k,I w,I a,I b,I c,I n]):=fun _=>by simp
  have hS:∀y:GObj,(G++[GObj.cells [I k,I w,I a,I b,I c,I n]]).set G.length y=G++[y]:=fun _=>by simp
  generalize v[i+1]=z at *
  generalize v.map I=V at *
  have hG:=hG (I 0)
  generalize G++[GObj.cells [I k,I w,I a,I b,I c,I n]]=G1 at *
  simp only[q8m,hD,jg4,e1,e2]
  have h3:i=0∨i=1∨i=2:=by omega
  rcases h3 with rfl|rfl|rfl
  ·simp[hg,hG,hS,spliceAt,PV.cells,unG]
  ·simp[hg,hG,hS,spliceAt,PV.cells,unG]
  ·simp[hg,hG,hS,spliceAt,PV.cells,unG]
theorem nd_run {g:Nat} {k many w:Int} {v:List Int} {G:List GObj} (hv:takesOf k+1≤(v.length:Int)) :
  runL pg q25 (nst g G.length k many (takesOf k) 0 v G [I k,I w,I 0,I 0,I 0,I 0])=some (.normal,⟨[(0,.ptr true g 0),(7,I k),(8,I many),(9,.sl false 1 (v.map I)),(10,.ptr true G.length 0)],[],G++[.cells [I k,I w,I (if 0<takesOf k then v.getD 1 0 else 0),I (if 1<takesOf k then v.getD 2 0 else 0),I (if 2<takesOf k then v.getD 3 0 else 0),I 0]]⟩):=by
 have ht:=jga k
 generalize takesOf k=t at *
 have hd:∀(j:Nat) (h:j<v.length),v.getD j 0=v[j]:=fun j h=>by rw[List.getD_eq_getElem?_getD,List.getElem?_eq_getElem h];rfl
 rcases ht with rfl|rfl|rfl|rfl
 ·exact jie (by omega)
 ·have h1:1<v.length:=by omega
  rw[hd 1 h1]
  exact jhd (i:=0) (by omega) (by omega) h1 (by simpa using jie (g:=g) (k:=k) (many:=many) (t:=1) (i:=1) (v:=v) (G:=G) (cs:=[I k,I w,I v[1],I 0,I 0,I 0]) (by omega)) rfl
 ·have h1:1<v.length:=by omega
  have h2:2<v.length:=by omega
  rw[hd 1 h1,hd 2 h2]
  exact jhd (i:=0) (by omega) (by omega) h1 (by
   simpa using jhd (g:=g) (k:=k) (many:=many) (t:=2) (w:=w) (a:=v[1]) (b:=0) (c:=0) (n:=0) (i:=1) (v:=v) (G:=G) (by omega) (by omega) h2 (by
    simpa using jie (g:=g) (k:=k) (many:=many) (t:=2) (i:=2) (v:=v) (G:=G) (cs:=[I k,I w,I v[1],I v[2],I 0,I 0]) (by omega)) rfl) rfl
 ·have h1:1<v.length:=by omega
  have h2:2<v.length:=by omega
  have h3:3<v.length:=by omega
  rw[hd 1 h1,hd 2 h2,hd 3 h3]
  exact jhd (i:=0) (by omega) (by omega) h1 (by
   simpa using jhd (g:=g) (k:=k) (many:=many) (t:=3) (w:=w) (a:=v[1]) (b:=0) (c:=0) (n:=0) (i:=1) (v:=v) (G:=G) (by omega) (by omega) h2 (by
    simpa using jhd (g:=g) (k:=k) (many:=many) (t:=3) (w:=w) (a:=v[1]) (b:=v[2]) (c:=0) (n:=0) (i:=2) (v:=v) (G:=G) (by omega) (by omega) h3 (by
     simpa using jie (g:=g) (k:=k) (many:=many) (t:=3) (i:=3) (v:=v) (G:=G) (cs:=[I k,I w,I v[1],I v[2],I v[3],I 0]) (by omega)) rfl) rfl) rfl
def addN (m:Md) (x:Nd):Md:={m with nodes:=m.nodes++[x] }
theorem nd_k3 {x:Nd} (hl:m.nodes.length≤20000) :
  runL pg q3d ⟨[(0,.ptr true gh.length 0),(10,.ptr true (Gr gh m r J).length 0)],[],Gr gh m r J++[.cells (nC x)]⟩=some (.ret,⟨[(4,B true)],[],Gr gh (addN m x) r (J++[.cells (nC x)])⟩):=by
 refine qd6_ ?_
 have e0:Gr gh m r J++[.cells (nC x)]=gh++rdrO m r::(J++[.cells (nC x)]):=by simp[Gr]
 have e1:Gr gh (addN m x) r (J++[.cells (nC x)])=gh++rdrO (addN m x) r::(J++[.cells (nC x)]):=rfl
 have h1:∀y:GObj,(gh++y::(J++[.cells (nC x)]))[gh.length]?=some y:=fun y=>by simp
 have h2:∀y:GObj,(gh++y::(J++[.cells (nC x)]))[(Gr gh m r J).length]?=some (.cells (nC x)):=fun y=>by
  have:(Gr gh m r J).length=gh.length+(J.length+1):=by simp[Gr]
  rw[this,List.getElem?_append_right (by omega)]
  simp
 have h3:∀y z:GObj,(gh++y::(J++[.cells (nC x)])).set gh.length z=gh++z::(J++[.cells (nC x)]):=fun y z=>by simp
 have hfit:(m.nodes.length+1)*48≤maxBytes:=Nat.le_trans (by omega:(m.nodes.length+1)*48≤20001*48) (by decide)
 have hml:(m.nodes.map nodeV).length=m.nodes.length:=List.length_map _
 rw[e0,e1]
 obtain⟨q,hq⟩:∃q:GObj→List GObj,q=fun y=>gh++y::(J++[.cells (nC x)]):=⟨_,rfl⟩
 have hq':∀y,gh++y::(J++[.cells (nC x)])=q y:=fun y=>by rw[hq]
 simp only[hq'] at h1 h2 h3 ⊢
 clear hq hq' e0 e1
 generalize (Gr gh m r J).length=L at *
 have er:rdrO (addN m x) r= .cells [.sl true 6 (m.nodes.map nodeV++[nodeV x]),.sl true 2 (m.inits.map andV),.sl true 2 (m.nexts.map andV),.sl true 1 (m.bads.map I),.sl true 1 (m.holds.map I),I r]:=by simp[rdrO,addN]
 rw[er]
 unfold rdrO
 unfold nC at h2
 rw[←hml] at hfit
 rw[jg1]
 generalize m.nodes.map nodeV=NL at *
 generalize m.inits.map andV=q1
 generalize m.nexts.map andV=q2
 generalize m.bads.map I=q3
 generalize m.holds.map I=q4
 simp[qd6,ghCells,h1,h2,h3,spliceAt,grab,apX,hfit,degr1]
theorem nd_k2 {k many w a b c:Int} {v:List Int} (hl:m.nodes.length≤20000) (hm:many=wantK k) (hv:(v.length:Int)=wantK k) :
  runL pg q4f ⟨[(0,.ptr true gh.length 0),(7,I k),(8,I many),(9,.sl false 1 (v.map I)),(10,.ptr true (Gr gh m r J).length 0)],[],Gr gh m r J++[.cells [I k,I w,I a,I b,I c,I 0]]⟩=
   some (.ret,⟨[(4,B true)],[],Gr gh (addN m ⟨k,w,a,b,c,if k=1∨k=21 then v.getD (wantK k-1).toNat 0 else 0⟩) r (J++[.cells (nC ⟨k,w,a,b,c,if k=1∨k=21 then v.getD (wantK k-1).toNat 0 else 0⟩)])⟩):=by
 have hh:=fun G=>has_eq (gh:=G) k
 have ht:=jga k
 refine q8n_ ?_
 by_cases hc:k=1∨k=21
 ·have h3:=nd_k3 (gh:=gh) (J:=J) (r:=r) (x:=⟨k,w,a,b,c,v.getD (wantK k-1).toNat 0⟩) hl
  rw[if_pos hc]
  have hw:wantK k=2+takesOf k:=by unfold wantK;rw[if_pos hc];omega
  have e1:IntKind.i64.wrap (many-1)=wantK k-1:=by rw[hm,jfp (by omega) (by omega)]
  have hlt:(wantK k-1).toNat<v.length:=by omega
  have hg:(v.map I)[(wantK k-1).toNat]?=some (I (v.getD (wantK k-1).toNat 0)):=by
   rw[List.getElem?_map,List.getElem?_eq_getElem hlt,List.getD_eq_getElem?_getD,List.getElem?_eq_getElem hlt];rfl
  have h0:(0:Int)≤wantK k-1:=by omega
  have hgl:(Gr gh m r J++[GObj.cells [I k,I w,I a,I b,I c,I 0]])[(Gr gh m r J).length]?=some (.cells [I k,I w,I a,I b,I c,I 0]):=by simp
  have hgs:∀y:GObj,(Gr gh m r J++[GObj.cells [I k,I w,I a,I b,I c,I 0]]).set (Gr gh m r J).length y=Gr gh m r J++[y]:=fun y=>by simp
  have hcd:=decide_eq_true hc
  generalize v.getD (wantK k-1).toNat 0=z at *
  generalize hN:(wantK k-1).toNat=N at *
  generalize v.map I=V at *
  generalize Gr gh m r J++[GObj.cells [I k,I w,I a,I b,I c,I 0]]=G1 at *
  generalize decide (k=1∨k=21)=bb at *
  subst hcd
  simp only[q8n,e1]
  unfold nC at h3
  simp only at h3
  have h1k:(1:Int)≤wantK k:=by omega
  simp[hh,hg,h1k,hN,hgl,hgs,spliceAt,h3]
 ·have h3:=nd_k3 (gh:=gh) (J:=J) (r:=r) (x:=⟨k,w,a,b,c,0⟩) hl
  rw[if_neg hc]
  have hcd:=decide_eq_false hc
  generalize v.map I=V at *
  generalize decide (k=1∨k=21)=bb at *
  subst hcd
  unfold nC at h3
  simp only at h3
  simp only[q8n]
  simp[hh,h3]
theorem nd_k1 {k:Int} {ws:List (List UInt8)} (hl:m.nodes.length≤20000) (hs:∀x∈ws,x.length≤3000000) (hws:ws.length≤3000000) (h2:2≤ws.length) :
  ∃J',runL pg q26 ⟨[(0,.ptr true gh.length 0),(1,.sl false 1 (SL8 ws)),(7,I k),(8,I (wantK k))],[],Gr gh m r J⟩=
   match (match numsK (ws.drop 2) with|some v=>if (v.length:Int)=wantK k then some (mkNd k v) else none|none=>none) with
   |some x=>some (.ret,⟨[(4,B true)],[],Gr gh (addN m x) r J'⟩)
   |none=>some (.ret,⟨[(4,B false)],[],Gr gh m r J⟩):=by
 have hN:=jmw (gh:=Gr gh m r J) (many:=wantK k) (xs:=ws.drop 2) (fun x hx=>hs x (List.mem_of_mem_drop hx)) (by simp;omega)
 have ht:=jga k
 have hdr:(SL8 ws).drop 2=SL8 (ws.drop 2):=(List.map_drop ..).symm
 have hwl:(SL8 ws).length=ws.length:=List.length_map _
 cases hn:numsK (ws.drop 2) with
 |none=>
  refine⟨J,?_⟩
  rw[hn] at hN
  simp only[Option.getD_none,LI,List.map_nil] at hN ⊢
  refine q54_ ?_
  generalize SL8 (ws.drop 2)=D at *
  generalize SL8 ws=W at *
  simp[q54,bd,gd0,hdr,hN,show 2≤W.length by omega]
 | some v=>
  rw[hn] at hN
  simp only[Option.getD_some,LI] at hN ⊢
  by_cases hv:(v.length:Int)=wantK k
  ·rw[if_pos hv]
   rw[decide_eq_true hv] at hN
   simp only
   have hT:=fun G=>jgc k G
   have hw1:0<v.length:=by unfold wantK at hv;split at hv<;>omega
   have hvt:takesOf k+1≤(v.length:Int):=by unfold wantK at hv;split at hv<;>omega
   have hg0:(v.map I)[0]?=some (I (v.getD 0 0)):=by
    rw[List.getElem?_map,List.getElem?_eq_getElem hw1,List.getD_eq_getElem?_getD,List.getElem?_eq_getElem hw1];rfl
   refine⟨J++[.cells (nC (mkNd k v))],?_⟩
   have h3:=nd_run (g:=gh.length) (k:=k) (many:=wantK k) (w:=v.getD 0 0) (v:=v) (G:=Gr gh m r J) hvt
   have h4:=nd_k2 (gh:=gh) (J:=J) (r:=r) (m:=m) (k:=k) (many:=wantK k) (w:=v.getD 0 0) (a:=if 0<takesOf k then v.getD 1 0 else 0) (b:=if 1<takesOf k then v.getD 2 0 else 0) (c:=if 2<takesOf k then v.getD 3 0 else 0) (v:=v) hl rfl hv
   have em:(⟨k,v.getD 0 0,if 0<takesOf k then v.getD 1 0 else 0,if 1<takesOf k then v.getD 2 0 else 0,if 2<takesOf k then v.getD 3 0 else 0,if k=1∨k=21 then v.getD (wantK k-1).toNat 0 else 0⟩:Nd)=mkNd k v:=rfl
   rw[em] at h4
   refine q54_ ?_
   have hG1:∀y:GObj,(Gr gh m r J++[y])[(Gr gh m r J).length]?=some y:=fun y=>by simp
   have hG2:∀y z:GObj,(Gr gh m r J++[y]).set (Gr gh m r J).length z=Gr gh m r J++[z]:=fun y z=>by simp
   generalize (if 0<takesOf k then v.getD 1 0 else 0)=a at *
   generalize (if 1<takesOf k then v.getD 2 0 else 0)=b at *
   generalize (if 2<takesOf k then v.getD 3 0 else 0)=c at *
   generalize v.getD 0 0=w0 at *
   generalize Gr gh (addN m (mkNd k v)) r (J++[.cells (nC (mkNd k v))])=G9 at *
   unfold nst at h3
   obtain⟨q,hq⟩:∃q:GObj→List GObj,q=fun y=>Gr gh m r J++[y]:=⟨_,rfl⟩
   have hq':∀y,Gr gh m r J++[y]=q y:=fun y=>by rw[hq]
   simp only[hq'] at h3 h4 hG1 hG2
   generalize v.map I=V at *
   generalize SL8 (ws.drop 2)=D at *
   generalize SL8 ws=W at *
   simp only[Int.natCast_zero] at h3
   simp[q54,bd,gd0,hdr,hN,hT,hg0,ghCells,hq',hG1,hG2,spliceAt,h3,h4,show 2≤W.length by omega]
  ·rw[if_neg hv]
   rw[decide_eq_false hv] at hN
   refine⟨J,?_⟩
   simp only
   refine q54_ ?_
   generalize SL8 (ws.drop 2)=D at *
   generalize SL8 ws=W at *
   generalize v.map I=V at *
   simp[q54,bd,gd0,hdr,hN,show 2≤W.length by omega]
theorem jsx {w:List UInt8} {rest:List (List UInt8)} (hl:m.nodes.length≤20000) (hs:∀x∈w::rest,x.length≤3000000) (hws:(w::rest).length≤3000000) :
  ∃J',callL pg 361 [.ptr true gh.length 0,.sl false 1 (SL8 (w::rest))] (Gr gh m r J)=
   match nodeK m r (w::rest) with
   |some x=>some (B true,Gr gh (addN m x) r J')
   |none=>some (B false,Gr gh m r J):=by
 obtain⟨v,hv,hv2⟩:=jmu (gh:=Gr gh m r J) (x:=w) (hs w (by simp))
 have hg:=Gr_get (gh:=gh) (J:=J) (m:=m) (r:=r)
 unfold rdrO at hg
 have hml:(m.nodes.map nodeV).length=m.nodes.length:=List.length_map _
 have fin:∀(b:Bool) (G:List GObj),runL pg q7h ⟨[(0,.ptr true gh.length 0),(1,.sl false 1 (SL8 (w::rest)))],[],Gr gh m r J⟩=some (.ret,⟨[(4,B b)],[],G⟩)→callL pg 361 [.ptr true gh.length 0,.sl false 1 (SL8 (w::rest))] (Gr gh m r J)=some (B b,G):=fun b G h=>
  jfm (fn:=q7i) rfl rfl h (by simp[finish,results,q7i,resOfs,resOf,resOk])
 by_cases h0:0≤undK w
 ·obtain rfl:=hv2 h0
  rw[decide_eq_true h0] at hv
  by_cases h1:undK w=(m.nodes.length:Int)
  ·match rest with
   |[]=>
    refine⟨J,fin _ _ (q1q_ ?_)⟩
    rw[←hml] at h1
    generalize m.nodes.map nodeV=NL at *
    generalize undK w=u at *
    subst h1
    simp[q1q,ghCells,hv,hg,grab]
   | u ::rest=>
    by_cases h2:r≤0
    ·have hix:=fun G=>jmy (gh:=G) (w:=u) (xs:=wordsL.drop 1) (by decide)
     have hsl:((List.map PV.str textWords).take 24).tail=SL8 (wordsL.drop 1):=rfl
     have hn2:¬((rest.length:Int)+1+1<2):=by omega
     have hr0:¬(0<r):=by omega
     have hkr:=jmz u
     have ek:IntKind.i64.wrap (idxF u (wordsL.drop 1) 0+1)=kindOf u:=by
      unfold kindOf at hkr ⊢
      rw[jfp (by omega) (by omega)]
     have htl:(List.map PV.str textWords).length=24:=rfl
     generalize idxF u (wordsL.drop 1) 0=ix at *
     by_cases h3:kindOf u=0
     ·have hK:nodeK m r (w::u::rest)=none:=by
       rw[jid,if_neg (fun h=>h.2.2 h3)]
      rw[hK]
      refine⟨J,fin _ _ (q1q_ ?_)⟩
      rw[←hml] at h1
      generalize m.nodes.map nodeV=NL at *
      generalize undK w=uu at *
      subst h1
      generalize SL8 (wordsL.drop 1)=WL at *
      simp only[q1q]
      generalize List.map PV.str textWords=TW at *
      simp[ghCells,hv,hg,grab,gd0,hn2,hr0,hsl,htl,hix,ek,h3]
     ·obtain⟨J',hk⟩:=nd_k1 (gh:=gh) (J:=J) (r:=r) (m:=m) (k:=kindOf u) (ws:=w::u::rest) hl hs hws (by simp)
      have hK:nodeK m r (w::u::rest)=(match numsK ((w::u::rest).drop 2) with|some v=>if (v.length:Int)=wantK (kindOf u) then some (mkNd (kindOf u) v) else none|none=>none):=by
       rw[jid,if_pos ⟨h1,h2,h3⟩]
       rfl
      rw[hK]
      refine⟨J',?_⟩
      have hT:=fun G=>jgc (kindOf u) G
      have hh:=fun G=>has_eq (gh:=G) (kindOf u)
      have ht:=jga (kindOf u)
      have hwk:wantK (kindOf u)=1+takesOf (kindOf u)+(if kindOf u=1∨kindOf u=21 then 1 else 0):=rfl
      have e1:IntKind.i64.wrap (1+takesOf (kindOf u))=1+takesOf (kindOf u):=jfp (by omega) (by omega)
      have e2:IntKind.i64.wrap (1+takesOf (kindOf u)+1)=1+takesOf (kindOf u)+1:=jfp (by omega) (by omega)
      have main:∀(b:Bool) (G:List GObj),runL pg q26 ⟨[(0,.ptr true gh.length 0),(1,.sl false 1 (SL8 (w::u::rest))),(7,I (kindOf u)),(8,I (wantK (kindOf u)))],[],Gr gh m r J⟩=some (.ret,⟨[(4,B b)],[],G⟩)→callL pg 361 [.ptr true gh.length 0,.sl false 1 (SL8 (w::u::rest))] (Gr gh m r J)=some (B b,G):=by
       intro b G hk
       refine fin _ _ (q1q_ ?_)
       simp only[List.map_cons] at hk
       rw[←hml] at h1
       generalize m.nodes.map nodeV=NL at *
       generalize undK w=uu at *
       subst h1
       generalize SL8 (wordsL.drop 1)=WL at *
       simp only[q1q]
       generalize List.map PV.str textWords=TW at *
       generalize takesOf (kindOf u)=t at *
       by_cases hc:kindOf u=1∨kindOf u=21
       ·have hcd:=decide_eq_true hc
        rw[if_pos hc] at hwk
        rw[hwk] at hk
        generalize decide (kindOf u=1∨kindOf u=21)=bb at *
        subst hcd
        simp[ghCells,hv,hg,grab,gd0,hn2,hr0,hsl,htl,hix,ek,h3,hT,hh,e1,e2,hk]
       ·have hcd:=decide_eq_false hc
        rw[if_neg hc,Int.add_zero] at hwk
        rw[hwk] at hk
        generalize decide (kindOf u=1∨kindOf u=21)=bb at *
        subst hcd
        simp[ghCells,hv,hg,grab,gd0,hn2,hr0,hsl,htl,hix,ek,h3,hT,hh,e1,e2,hk]
      generalize (match numsK ((w::u::rest).drop 2) with|some v=>if (v.length:Int)=wantK (kindOf u) then some (mkNd (kindOf u) v) else none|none=>none)=o at *
      cases o with
      |none=>exact main _ _ hk
      |some x=>exact main _ _ hk
    ·have hK:nodeK m r (w::u::rest)=none:=by
      rw[jid,if_neg (fun h=>h2 h.2.1)]
     rw[hK]
     refine⟨J,fin _ _ (q1q_ ?_)⟩
     rw[←hml] at h1
     generalize m.nodes.map nodeV=NL at *
     generalize undK w=uu at *
     subst h1
     have hn2:¬((rest.length:Int)+1+1<2):=by omega
     simp[q1q,ghCells,hv,hg,grab,hn2,show 0<r by omega]
  ·have hK:nodeK m r (w::rest)=none:=by
    unfold nodeK
    split
    ·rename_i e
     injection e with e1 e2
     subst e1
     rw[if_neg (fun h=>h1 h.1)]
    ·rfl
   rw[hK]
   refine⟨J,fin _ _ (q1q_ ?_)⟩
   rw[←hml] at h1
   generalize m.nodes.map nodeV=NL at *
   generalize undK w=uu at *
   simp[q1q,ghCells,hv,hg,grab,h1]
 ·have hK:nodeK m r (w::rest)=none:=by
   unfold nodeK
   split
   ·rename_i e
    injection e with e1 e2
    subst e1
    rw[if_neg (fun h=>h0 (by omega))]
   ·rfl
  rw[hK]
  rw[decide_eq_false h0] at hv
  refine⟨J,fin _ _ (q1q_ ?_)⟩
  simp[q1q,hv]
end
end Go.Lw
end

/-! Models out of texts: the program's reader of a line. -/
section
namespace Go.Lw
open Go
def sortsL:List (List UInt8):=[[],[105,110,105,116],[110,101,120,116],[98,97,100],[104,111,108,100]]
def sortOf (w:List UInt8):Int:=idxF w sortsL 0
def addS (m:Md) (s:Int) (v:List Int):Md:=
 if s=1 then {m with inits:=m.inits++[(v.getD 0 0,v.getD 1 0)] } else if s=2 then {m with nexts:=m.nexts++[(v.getD 0 0,v.getD 1 0)] }
 else if s=3 then {m with bads:=m.bads++[v.getD 0 0] } else {m with holds:=m.holds++[v.getD 0 0] }
def manyOf (s:Int):Int:=if 2<s then 1 else 2
def lineK (m:Md) (r:Int) (x:List UInt8):Option (Md×Int):=match splitK 32 x with
 |[]=>none
 | w::rest=>if sortOf w<1 then (nodeK m r (w::rest)).map fun x=>(addN m x,r)
  else match numsK rest with
   |some v=>if (v.length:Int)=manyOf (sortOf w)∧r≤sortOf w then some (addS m (sortOf w) v,sortOf w) else none
   |none=>none
structure MdZ (m:Md) (N:Nat):Prop where
 nodes:m.nodes.length≤N
 inits:m.inits.length≤N
 nexts:m.nexts.length≤N
 bads:m.bads.length≤N
 holds:m.holds.length≤N
section
variable {gh J:List GObj} {m:Md} {r:Int}
theorem ln_k1 {w:List UInt8} {rest:List (List UInt8)} {s:Int} (hz:MdZ m 20000) (hs:∀x∈rest,x.length≤3000000) (hws:rest.length≤3000000) (h1:1≤s) (h4:s≤4) :
  runL pg q24 ⟨[(0,.ptr true gh.length 0),(5,.sl false 1 (SL8 (w::rest))),(6,I s),(7,I (manyOf s))],[],Gr gh m r J⟩=
   match (match numsK rest with|some v=>if (v.length:Int)=manyOf s∧r≤s then some (addS m s v,s) else none|none=>none:Option (Md×Int)) with
   |some (m',r')=>some (.ret,⟨[(4,B true)],[],Gr gh m' r' J⟩)
   |none=>some (.ret,⟨[(4,B false)],[],Gr gh m r J⟩):=by
 have hN:=jmw (gh:=Gr gh m r J) (many:=manyOf s) hs hws
 have hg:=Gr_get (gh:=gh) (J:=J) (m:=m) (r:=r)
 unfold rdrO at hg
 simp only[SL8,List.map_cons] at hN ⊢
 generalize hD0:rest.map (fun x=>PV.str (bA x))=D at *
 cases hn:numsK rest with
 |none=>
  rw[hn] at hN
  simp only[Option.getD_none,LI,List.map_nil] at hN ⊢
  refine q1i_ ?_
  simp[q1i,gd0,hN]
 | some v=>
  rw[hn] at hN
  simp only[Option.getD_some,LI] at hN ⊢
  by_cases hv:(v.length:Int)=manyOf s
  ·rw [decide_eq_true hv] at hN
   by_cases hr:r≤s
   ·rw[if_pos ⟨hv,hr⟩]
    simp only
    have hk2:∀G:List GObj,runL pg q1b ⟨[],[],G⟩=some (.ret,⟨[(4,B true)],[],G⟩):=fun G=>qfe_ rfl
    have hr':¬s<r:=by omega
    have g1:∀y:GObj,(gh++y::J)[gh.length]?=some y:=fun y=>by simp
    have g2:∀y z:GObj,(gh++y::J).set gh.length z=gh++z::J:=fun y z=>by simp
    unfold Gr at hN ⊢
    obtain⟨q,hq⟩:∃q:GObj→List GObj,q=fun y=>gh++y::J:=⟨_,rfl⟩
    have hq':∀y,gh++y::J=q y:=fun y=>by rw[hq]
    simp only[hq'] at hN g1 g2 ⊢
    clear hq hq' hg
    have z1:((m.inits.map andV).length+1)*16≤maxBytes:=Nat.le_trans (by have:=hz.inits;rw[List.length_map];omega:_≤20001*16) (by decide)
    have z2:((m.nexts.map andV).length+1)*16≤maxBytes:=Nat.le_trans (by have:=hz.nexts;rw[List.length_map];omega:_≤20001*16) (by decide)
    have z3:((m.bads.map I).length+1)*8≤maxBytes:=Nat.le_trans (by have:=hz.bads;rw[List.length_map];omega:_≤20001*8) (by decide)
    have z4:((m.holds.map I).length+1)*8≤maxBytes:=Nat.le_trans (by have:=hz.holds;rw[List.length_map];omega:_≤20001*8) (by decide)
    refine q1i_ ?_
    have hcase:s=1∨s=2∨s=3∨s=4:=by omega
    rcases hcase with rfl|rfl|rfl|rfl
    ·match v,hv with
     |[a,b],_=>
      have er:rdrO (addS m 1 [a,b]) 1= .cells [.sl true 6 (m.nodes.map nodeV),.sl true 2 (m.inits.map andV++[.agg [I a,I b]]),.sl true 2 (m.nexts.map andV),.sl true 1 (m.bads.map I),.sl true 1 (m.holds.map I),I 1]:=by simp[rdrO,addS,andV]
      rw[er]
      unfold rdrO at hN ⊢
      generalize m.nodes.map nodeV=q0 at *
      generalize m.inits.map andV=q1 at *
      generalize m.nexts.map andV=q2 at *
      generalize m.bads.map I=q3 at *
      generalize m.holds.map I=q4 at *
      simp only[List.map_cons,List.map_nil] at hN
      simp[q1i,gd0,hN,ghCells,g1,g2,grab,hr',spliceAt,apX,z1,degr1,hk2]
    ·match v,hv with
     |[a,b],_=>
      have er:rdrO (addS m 2 [a,b]) 2= .cells [.sl true 6 (m.nodes.map nodeV),.sl true 2 (m.inits.map andV),.sl true 2 (m.nexts.map andV++[.agg [I a,I b]]),.sl true 1 (m.bads.map I),.sl true 1 (m.holds.map I),I 2]:=by simp[rdrO,addS,andV]
      rw[er]
      unfold rdrO at hN ⊢
      generalize m.nodes.map nodeV=q0 at *
      generalize m.inits.map andV=q1 at *
      generalize m.nexts.map andV=q2 at *
      generalize m.bads.map I=q3 at *
      generalize m.holds.map I=q4 at *
      simp only[List.map_cons,List.map_nil] at hN
      simp[q1i,gd0,hN,ghCells,g1,g2,grab,hr',spliceAt,apX,z2,degr1,hk2]
    ·match v,hv with
     |[a],_=>
      have er:rdrO (addS m 3 [a]) 3= .cells [.sl true 6 (m.nodes.map nodeV),.sl true 2 (m.inits.map andV),.sl true 2 (m.nexts.map andV),.sl true 1 (m.bads.map I++[I a]),.sl true 1 (m.holds.map I),I 3]:=by simp[rdrO,addS]
      rw[er]
      unfold rdrO at hN ⊢
      generalize m.nodes.map nodeV=q0 at *
      generalize m.inits.map andV=q1 at *
      generalize m.nexts.map andV=q2 at *
      generalize m.bads.map I=q3 at *
      generalize m.holds.map I=q4 at *
      simp only[List.map_cons,List.map_nil] at hN
      simp[q1i,gd0,hN,ghCells,g1,g2,grab,hr',spliceAt,apX,z3,degr1,hk2]
    ·match v,hv with
     |[a],_=>
      have er:rdrO (addS m 4 [a]) 4= .cells [.sl true 6 (m.nodes.map nodeV),.sl true 2 (m.inits.map andV),.sl true 2 (m.nexts.map andV),.sl true 1 (m.bads.map I),.sl true 1 (m.holds.map I++[I a]),I 4]:=by simp[rdrO,addS]
      rw[er]
      unfold rdrO at hN ⊢
      generalize m.nodes.map nodeV=q0 at *
      generalize m.inits.map andV=q1 at *
      generalize m.nexts.map andV=q2 at *
      generalize m.bads.map I=q3 at *
      generalize m.holds.map I=q4 at *
      simp only[List.map_cons,List.map_nil] at hN
      simp[q1i,gd0,hN,ghCells,g1,g2,grab,hr',spliceAt,apX,z4,degr1,hk2]
   ·rw[if_neg (fun h=>hr h.2)]
    simp only
    refine q1i_ ?_
    generalize v.map I=V at *
    simp[q1i,gd0,hN,ghCells,hg,grab,show s<r by omega]
  ·rw[if_neg (fun h=>hv h.1)]
   rw[decide_eq_false hv] at hN
   simp only
   refine q1i_ ?_
   generalize v.map I=V at *
   simp[q1i,gd0,hN]
theorem jsy {x:List UInt8} (hz:MdZ m 20000) (hx:x.length≤2000000) :
  ∃J',callL pg 353 [.ptr true gh.length 0,.str (bA x)] (Gr gh m r J)=
   match lineK m r x with
   |some (m',r')=>some (B true,Gr gh m' r' J')
   |none=>some (B false,Gr gh m r J):=by
 have hsp:=fun G=>jrt (gh:=G) (c:=32) (x:=x) (by omega)
 have hsz:=jjg 32 x
 have hsl:=jgr 32 x
 unfold lineK
 cases hws:splitK 32 x with
 |nil=>rw[hws] at hsl;simp at hsl
 | cons w rest=>
  rw[hws] at hsp hsz hsl
  simp only
  have hix:=fun G=>jmy (gh:=G) (w:=w) (xs:=sortsL) (by decide)
  rw[show idxF w sortsL 0=sortOf w from rfl] at hix
  have hrg:=jju w sortsL 0
  rw[show idxF w sortsL 0=sortOf w from rfl,show sortsL.length=5 from rfl] at hrg
  have esl:SL8 sortsL=[.str ByteArray.empty,.str (⟨#[105,110,105,116]⟩:ByteArray),.str (⟨#[110,101,120,116]⟩:ByteArray),.str (⟨#[98,97,100]⟩:ByteArray),.str (⟨#[104,111,108,100]⟩:ByteArray)]:=rfl
  rw[esl] at hix
  have ebs:(⟨#[32]⟩:ByteArray)=bA [32]:=rfl
  have fin:∀(b:Bool) (G:List GObj),runL pg q7f ⟨[(0,.ptr true gh.length 0),(1,.str (bA x))],[],Gr gh m r J⟩=some (.ret,⟨[(4,B b)],[],G⟩)→callL pg 353 [.ptr true gh.length 0,.str (bA x)] (Gr gh m r J)=some (B b,G):=fun b G h=>
   jfm (fn:=q7g) rfl rfl h (by simp[finish,results,q7g,resOfs,resOf,resOk])
  generalize sortOf w=s at *
  by_cases h1:s<1
  ·rw[if_pos h1]
   obtain⟨J',hnd⟩:=jsx (gh:=gh) (J:=J) (m:=m) (r:=r) (w:=w) (rest:=rest) hz.nodes (fun y hy=>by have:=hsz y hy;omega) (by omega)
   refine⟨J',?_⟩
   have main:∀(b:Bool) (G:List GObj),callL pg 361 [.ptr true gh.length 0,.sl false 1 (SL8 (w::rest))] (Gr gh m r J)=some (B b,G)→callL pg 353 [.ptr true gh.length 0,.str (bA x)] (Gr gh m r J)=some (B b,G):=by
    intro b G h
    refine fin _ _ (q55_ ?_)
    simp only[List.map_cons] at h hsp
    generalize rest.map (fun x=>PV.str (bA x))=R at *
    simp[q55,ebs,hsp,hix,h1,h]
   cases hk:nodeK m r (w::rest) with
   |none=>rw[hk] at hnd;exact main _ _ hnd
   |some y=>rw[hk] at hnd;exact main _ _ hnd
  ·rw[if_neg h1]
   have hk1:=ln_k1 (gh:=gh) (J:=J) (m:=m) (r:=r) (w:=w) (rest:=rest) (s:=s) hz (fun y hy=>by have:=hsz y (by simp[hy]);omega) (by simp at hsl;omega) (by omega) (by omega)
   refine⟨J,?_⟩
   have main:∀(b:Bool) (G:List GObj),runL pg q24 ⟨[(0,.ptr true gh.length 0),(5,.sl false 1 (SL8 (w::rest))),(6,I s),(7,I (manyOf s))],[],Gr gh m r J⟩=some (.ret,⟨[(4,B b)],[],G⟩)→callL pg 353 [.ptr true gh.length 0,.str (bA x)] (Gr gh m r J)=some (B b,G):=by
    intro b G h
    refine fin _ _ (q55_ ?_)
    unfold manyOf at h
    simp only[List.map_cons] at h hsp
    generalize rest.map (fun x=>PV.str (bA x))=R at *
    by_cases h2:2<s
    ·rw[if_pos h2] at h
     simp[q55,ebs,hsp,hix,h1,h2,h]
    ·rw[if_neg h2] at h
     simp[q55,ebs,hsp,hix,h1,h2,h]
   generalize (match numsK rest with|some v=>if (v.length:Int)=manyOf s∧r≤s then some (addS m s v,s) else none|none=>none:Option (Md×Int))=o at *
   match o with
   |none=>exact main _ _ hk1
   |some (m',r')=>exact main _ _ hk1
end
end Go.Lw
end

/-! Models out of texts: the program's Parse. -/
section
namespace Go.Lw
open Go
def m0:Md:=⟨[],[],[],[],[]⟩
def pgo:List (List UInt8)→Md→Int→Nat→Nat ⊕ Md
 |[],m,_,_=> .inr m
 |[x],m,_,n=>if x=[] then .inr m else .inl n
 |x::y::t,m,r,n=>match lineK m r x with
  |none=> .inl n
  |some (m',r')=>pgo (y::t) m' r' (n+1)
def parseE (s:List UInt8):Md×Int×Int:=if 10000<s.length then (m0,0,2) else match pgo (splitK 10 s) m0 0 1 with
 | .inl e=>(m0,(e:Int),1)
 | .inr m=>if checkE m=0 then (m,0,0) else (m0,0,checkE m)
theorem jif (x:List UInt8) (m:Md) (r:Int) (n:Nat):pgo [x] m r n=if x=[] then .inr m else .inl n:=rfl
theorem jjv (x y:List UInt8) (t:List (List UInt8)) (m:Md) (r:Int) (n:Nat):pgo (x::y::t) m r n=match lineK m r x with
  |none=> .inl n
  |some (m',r')=>pgo (y::t) m' r' (n+1):=rfl
theorem MdZ_m0 (N:Nat):MdZ m0 N:=⟨Nat.zero_le _,Nat.zero_le _,Nat.zero_le _,Nat.zero_le _,Nat.zero_le _⟩
theorem jhe {m:Md} {N M:Nat} (h:MdZ m N) (k:N≤M):MdZ m M:=⟨Nat.le_trans h.1 k,Nat.le_trans h.2 k,Nat.le_trans h.3 k,Nat.le_trans h.4 k,Nat.le_trans h.5 k⟩
theorem jjw {m m':Md} {r r':Int} {x:List UInt8} {N:Nat} (h:MdZ m N) (hk:lineK m r x=some (m',r')):MdZ m' (N+1):=by
 obtain⟨h1,h2,h3,h4,h5⟩:=h
 unfold lineK at hk
 split at hk
 ·cases hk
 ·split at hk
  ·simp only[Option.map_eq_some_iff,Prod.mk.injEq] at hk
   obtain⟨y,-,rfl,-⟩:=hk
   refine⟨?_,?_,?_,?_,?_⟩<;>simp[addN]<;>omega
  ·split at hk
   ·split at hk
    ·simp only[Option.some.injEq,Prod.mk.injEq] at hk
     obtain⟨rfl,-⟩:=hk
     unfold addS
     split
     ·refine⟨?_,?_,?_,?_,?_⟩<;>simp<;>omega
     ·split
      ·refine⟨?_,?_,?_,?_,?_⟩<;>simp<;>omega
      ·split
       ·refine⟨?_,?_,?_,?_,?_⟩<;>simp<;>omega
       ·refine⟨?_,?_,?_,?_,?_⟩<;>simp<;>omega
    ·cases hk
   ·cases hk
theorem pgo_z:∀{l:List (List UInt8)} {m m':Md} {r:Int} {n N:Nat},MdZ m N→pgo l m r n= .inr m'→MdZ m' (N+l.length)
 |[],m,m',r,n,N,h,hk=>by cases hk;exact h
 |[x],m,m',r,n,N,h,hk=>by
  rw[jif] at hk
  split at hk
  ·cases hk;exact jhe h (by simp)
  ·cases hk
 | x::y::t,m,m',r,n,N,h,hk=>by
  rw[jjv] at hk
  split at hk
  ·cases hk
  ·rename_i m2 r2 e
   have:=pgo_z (jjw h e) hk
   exact jhe this (by simp;omega)
section
variable {gh:List GObj}
abbrev nilM:List PV:=[.sl true 6 [],.sl true 2 [],.sl true 2 [],.sl true 1 [],.sl true 1 []]
theorem jn0:∀(k:Nat) (s:List UInt8) (m:Md) (r:Int) (J:List GObj) (n N:Nat),(splitK 10 s).length=k→s.length≤20000→MdZ m N→N+k≤20000→n+k≤1000000→
  ∃(m2:Md) (r2:Int) (J2:List GObj),runL pg q7e ⟨[(0,.str (bA s)),(2,.ptr false 0 0),(5,.ptr true gh.length 0),(6,I (n:Int))],[nilM],Gr gh m r J⟩=
   match pgo (splitK 10 s) m r n with
   | .inl e=>some (.ret,⟨[(2,.ptr false 0 0),(3,I (e:Int)),(4,I 1)],[nilM],Gr gh m2 r2 J2⟩)
   | .inr m'=>some (.normal,⟨[(2,.ptr false 0 0),(5,.ptr true gh.length 0)],[nilM],Gr gh m' r2 J2⟩)
 |0,s,_,_,_,_,_,h,_,_,_,_=>by
  have:=(jgr 10 s).1
  omega
 | k +1,s,m,r,J,n,N,h,hs,hz,hN,hn=>by
  have eE:ByteArray.empty=bA []:=rfl
  by_cases h0:s=[]
  ·subst h0
   refine⟨m,r,J,?_⟩
   rw[show splitK 10 []=[[]] from rfl,jif,if_pos rfl]
   refine (jfr (s1:=⟨[(0,.str (bA [])),(2,.ptr false 0 0),(5,.ptr true gh.length 0),(6,I (n:Int)),(18,B false)],[nilM],Gr gh m r J⟩) (q3s_ ?h1)).trans ?r1
   case h1=>
    generalize Gr gh m r J=G at *
    simp[q3s,eE]
   case r1=>simp[keep,stays]
  ·have hc:=fun G=>jru (gh:=G) (c:=10) (x:=s) (by omega)
   have hie:s.isEmpty=false:=by cases s with
    |nil=>exact absurd rfl h0
    |cons a b=>rfl
   have eN:(⟨#[10]⟩:ByteArray)=bA [10]:=rfl
   have e2:IntKind.i64.wrap ((n:Int)+1)=((n+1:Nat):Int):=by rw[jfp (by omega) (by omega)];omega
   rcases jmr 10 s with ⟨c1,c2⟩|⟨x,rest,c1,c2,c3⟩
   ·refine⟨m,r,J,?_⟩
    rw[c2,jif,if_neg h0]
    rw[c1] at hc
    refine lp_ret (q3s_ ?h2)
    case h2=>
     generalize Gr gh m r J=G at *
     simp only at hc
     simp[q3s,eE,eN,hie,hc]
   ·rw[c1] at hc
    simp only at hc
    have hxl:x.length+rest.length+1=s.length:=by rw[c3];simp;omega
    obtain⟨J',hl⟩:=jsy (gh:=gh) (J:=J) (m:=m) (r:=r) (x:=x) (jhe hz (by omega)) (by omega)
    have hkl:(splitK 10 rest).length=k:=by rw[c2] at h;simpa using h
    obtain⟨y,t,hyt⟩:=jms 10 rest
    rw[c2,hyt,jjv]
    cases hk:lineK m r x with
    | none=>
     rw[hk] at hl
     refine⟨m,r,J,?_⟩
     simp only at hl ⊢
     refine lp_ret (q3s_ ?h3)
     case h3=>
      generalize Gr gh m r J=G at *
      simp[q3s,eE,eN,hie,hc,hl]
    | some p=>
     obtain⟨m',r'⟩:=p
     rw[hk] at hl
     simp only at hl ⊢
     obtain⟨m2,r2,J2,hrec⟩:=jn0 k rest m' r' J' (n+1) (N+1) hkl (by omega) (jjw hz hk) (by omega) (by omega)
     rw[hyt] at hrec
     refine⟨m2,r2,J2,?_⟩
     refine jfn (q3s_ (s:=⟨[(0,.str (bA rest)),(2,.ptr false 0 0),(5,.ptr true gh.length 0),(6,I ((n+1:Nat):Int))],[nilM],Gr gh m' r' J'⟩) ?h4) hrec
     case h4=>
      generalize Gr gh m' r' J'=G1 at *
      generalize Gr gh m r J=G at *
      generalize ((n+1:Nat):Int)=T at *
      simp[q3s,eE,eN,hie,hc,hl,e2]
theorem jn1 {m:Md} {r:Int} {J:List GObj}:(Gr gh m r J).take gh.length=gh:=by simp[Gr]
theorem jn2 (l:List Nd):noGs (l.map nodeV)=true:=by
 induction l with
 |nil=>rfl
 |cons a l ih=>simp[noGs,PV.noG,nodeV,ih]
theorem jig (l:List (Int×Int)):noGs (l.map andV)=true:=by
 induction l with
 |nil=>rfl
 |cons a l ih=>simp[noGs,PV.noG,andV,ih]
theorem jsz {s:List UInt8} (hs:s.length≤2000000):callL pg 348 [.str (bA s)] gh=some (.tup [modelV (parseE s).1,I (parseE s).2.1,I (parseE s).2.2],gh):=by
 have hz:((bA s).size:Nat)=s.length:=jg8 s
 unfold parseE
 by_cases h1:10000<s.length
 ·rw[if_pos h1]
  refine jfm (fn:=qz) (s:=⟨[(2,.ptr false 0 0),(3,I 0),(4,I 2)],[nilM],gh⟩) rfl rfl (q3t_ ?h1) ?r1
  case h1=>simp[q3t,hz,show (10000:Int)<(s.length:Int) by omega]
  case r1=>simp[finish,results,qz,resOfs,resOf,St.cellsAt,resOk,modelV,m0]
 ·rw [if_neg h1]
  have hsl:=jgr 10 s
  obtain⟨m2,r2,J2,hl⟩:=jn0 (gh:=gh) (splitK 10 s).length s m0 0 [] 1 0 rfl (by omega) (MdZ_m0 0) (by omega) (by omega)
  have hg0:gh++[GObj.cells [.sl true 6 [],.sl true 2 [],.sl true 2 [],.sl true 1 [],.sl true 1 [],I 0]]=Gr gh m0 0 []:=rfl
  have hn1:¬(10000:Int)<(s.length:Int):=by omega
  cases hp:pgo (splitK 10 s) m0 0 1 with
  |inl e=>
   rw[hp] at hl
   simp only[Int.natCast_one] at hl ⊢
   have ht:=jn1 (gh:=gh) (m:=m2) (r:=r2) (J:=J2)
   generalize Gr gh m2 r2 J2=G2 at *
   generalize Gr gh m0 0 []=G0 at *
   refine jfm (fn:=qz) (s:=⟨[(2,.ptr false 0 0),(3,I (e:Int)),(4,I 1)],[nilM],G2⟩) rfl rfl (q3t_ ?h2) ?r2
   case h2=>simp[q3t,hz,hn1,hg0,hl]
   case r2=>simp[finish,results,qz,resOfs,resOf,St.cellsAt,resOk,modelV,m0,ht]
  | inr m=>
   rw[hp] at hl
   simp only[Int.natCast_one] at hl ⊢
   have hmz:=pgo_z (MdZ_m0 0) hp
   have hC:=jsv (m:=m) (gh:=Gr gh m r2 J2) (by simp only[Sz];have:=hmz.inits;omega) (by simp only[Sz];have:=hmz.nexts;omega)
   have ht:=jn1 (gh:=gh) (m:=m) (r:=r2) (J:=J2)
   have hg:=Gr_get (gh:=gh) (m:=m) (r:=r2) (J:=J2)
   unfold rdrO at hg
   generalize Gr gh m r2 J2=G2 at *
   generalize Gr gh m0 0 []=G0 at *
   have w0:=jn2 m.nodes
   have w1:=jig m.inits
   have w2:=jig m.nexts
   have w3:=jhq m.bads
   have w4:=jhq m.holds
   rw[jg6] at hC
   simp only[LN,LP,LI] at hC
   by_cases hc:checkE m=0
   ·rw[if_pos hc]
    rw[hc] at hC
    rw[jg6]
    simp only[LN,LP,LI]
    generalize m.nodes.map nodeV=q0 at *
    generalize m.inits.map andV=q1 at *
    generalize m.nexts.map andV=q2 at *
    generalize m.bads.map I=q3 at *
    generalize m.holds.map I=q4 at *
    have hk:runL pg q3b ⟨[(2,.ptr false 0 0),(5,.ptr true gh.length 0)],[nilM],G2⟩=some (.ret,⟨[(2,.ptr false 0 0),(3,I 0),(4,I 0)],[[.sl false 6 q0,.sl false 2 q1,.sl false 2 q2,.sl false 1 q3,.sl false 1 q4]],G2⟩):=by
     refine q8q_ ?_
     simp[q8q,ghCells,hg,grab,hC]
    refine jfm (fn:=qz) (s:=⟨[(2,.ptr false 0 0),(3,I 0),(4,I 0)],[[.sl false 6 q0,.sl false 2 q1,.sl false 2 q2,.sl false 1 q3,.sl false 1 q4]],G2⟩) rfl rfl (q3t_ ?h3) ?r3
    case h3=>simp[q3t,hz,hn1,hg0,hl,hk]
    case r3=>simp[finish,results,qz,resOfs,resOf,St.cellsAt,resOk,ht,w0,w1,w2,w3,w4]
   ·rw[if_neg hc]
    generalize checkE m=e at *
    generalize m.nodes.map nodeV=q0 at *
    generalize m.inits.map andV=q1 at *
    generalize m.nexts.map andV=q2 at *
    generalize m.bads.map I=q3 at *
    generalize m.holds.map I=q4 at *
    have hk:runL pg q3b ⟨[(2,.ptr false 0 0),(5,.ptr true gh.length 0)],[nilM],G2⟩=some (.ret,⟨[(2,.ptr false 0 0),(3,I 0),(4,I e)],[nilM],G2⟩):=by
     refine q8q_ ?_
     simp[q8q,ghCells,hg,grab,hC,hc]
    refine jfm (fn:=qz) (s:=⟨[(2,.ptr false 0 0),(3,I 0),(4,I e)],[nilM],G2⟩) rfl rfl (q3t_ ?h4) ?r4
    case h4=>simp[q3t,hz,hn1,hg0,hl,hk]
    case r4=>simp[finish,results,qz,resOfs,resOf,St.cellsAt,resOk,modelV,m0,ht]
end
end Go.Lw
end

/-! Models out of texts: the document's ParseModel: a line's kind and numbers. -/
section
namespace Go.Lw
open Go
def lastF (w:List UInt8):List (List UInt8)→Int→Int→Int
 |[],_,b=>b
 |x::l,i,b=>lastF w l (i+1) (if w=x then i else b)
theorem jn3 {w:List UInt8}:∀{l:List (List UInt8)} {i:Int},w∉l→idxF w l i= -1
 |[],_,_=>rfl
 |x::l,i,h=>by
  simp only[List.mem_cons,not_or] at h
  rw[idxF,if_neg h.1]
  exact jn3 h.2
theorem jn4 {w:List UInt8}:∀{l:List (List UInt8)} {i b:Int},l.Nodup→0≤i→lastF w l i b=if idxF w l i= -1 then b else idxF w l i
 |[],_,_,_,_=>by simp[lastF,idxF]
 | x::l,i,b,h,h0=>by
  rw[List.nodup_cons] at h
  rw[lastF,jn4 h.2 (by omega),idxF]
  by_cases hw:w=x
  ·subst hw
   rw[if_pos rfl,if_pos rfl,jn3 h.1,if_pos rfl,if_neg (by omega)]
  ·rw[if_neg hw,if_neg hw]
theorem jt0 (u:List UInt8):lastF u (wordsL.drop 1) 1 0=kindOf u:=by
 rw[jn4 (by decide) (by decide)]
 have sh:∀(l:List (List UInt8)) (i:Int),0≤i→(idxF u l (i+1)= -1∧idxF u l i= -1)∨(idxF u l (i+1)≠ -1∧idxF u l (i+1)=idxF u l i+1):=by
  intro l
  induction l with
  |nil=>intro i _;left;exact⟨rfl,rfl⟩
  |cons x l ih=>
   intro i h
   rw[idxF,idxF]
   split
   ·right;exact⟨by omega,rfl⟩
   ·exact ih (i+1) (by omega)
 have:=sh (wordsL.drop 1) 0 (by omega)
 rw[show (0:Int)+1=1 from rfl] at this
 unfold kindOf
 rcases this with ⟨h1,h2⟩|⟨h1,h2⟩
 ·rw[if_pos h1,h2];rfl
 ·rw[if_neg h1,h2]
abbrev mR (m:Md):List PV:=[.sl true 6 (m.nodes.map nodeV),.sl true 2 (m.inits.map andV),.sl true 2 (m.nexts.map andV),.sl true 1 (m.bads.map I),.sl true 1 (m.holds.map I)]
section
variable {gh:List GObj} {m:Md} {r:Int}
theorem jt1 (k:Nat) (h:k<24):wordsL.drop k=wordB (k:Int)::wordsL.drop (k+1):=by
 have hl:k<wordsL.length:=h
 rw[List.drop_eq_getElem_cons hl]
 unfold wordB
 rw[List.getD_eq_getElem?_getD,Int.toNat_natCast,List.getElem?_eq_getElem hl]
 rfl
theorem pm_l2 {L:List PV} {i:Int} {w u:List UInt8} {rest:List (List UInt8)} {M:List PV} {q0 q1 q2 q3 q4:PV} (hM:M=[q0,q1,q2,q3,q4]):∀n k b,k+n=24→1≤k→
  runL pg q33 ⟨[(2,.ptr false 0 0),(5,.sl false 1 L),(6,.ptr false 1 0),(7,I r),(8,I i),(9,.sl false 1 (SL8 (w::u::rest))),(10,I b),(11,I (k:Nat))],[nilM,M],gh⟩=
   some (.normal,⟨[(2,.ptr false 0 0),(5,.sl false 1 L),(6,.ptr false 1 0),(7,I r),(8,I i),(9,.sl false 1 (SL8 (w::u::rest))),(10,I (lastF u (wordsL.drop k) (k:Nat) b))],[nilM,M],gh⟩)
 |0,k,b,h,_=>by
  obtain rfl:k=24:=by omega
  subst hM
  rw[show wordsL.drop 24=[] from rfl,lastF]
  refine (jfr (s1:=⟨[(2,.ptr false 0 0),(5,.sl false 1 L),(6,.ptr false 1 0),(7,I r),(8,I i),(9,.sl false 1 (SL8 (w::u::rest))),(10,I b),(11,I ((24:Nat):Int)),(43,B false)],[nilM,[q0,q1,q2,q3,q4]],gh⟩) (q3u_ ?h1)).trans ?r1
  case h1=>simp[q3u]
  case r1=>simp[keep,stays]
 | n+1,k,b,h,h1=>by
  subst hM
  have hk:k<24:=by omega
  have hkw:=fun G=>jsw (gh:=G) (k:=(k:Int)) (by omega)
  have e2:IntKind.i64.wrap ((k:Int)+1)=((k+1:Nat):Int):=by rw[jfp (by omega) (by omega)];omega
  rw[jt1 k hk,lastF]
  have hrec:=fun b=>pm_l2 (L:=L) (i:=i) (w:=w) (u:=u) (rest:=rest) (M:=[q0,q1,q2,q3,q4]) rfl n (k+1) b (by omega) (by omega)
  rw[show ((k:Nat):Int)+1=((k+1:Nat):Int) by omega]
  have hk1:∀b:Int,runL pg q32 ⟨[(2,.ptr false 0 0),(5,.sl false 1 L),(6,.ptr false 1 0),(7,I r),(8,I i),(9,.sl false 1 (SL8 (w::u::rest))),(10,I b),(11,I (k:Nat))],[nilM,[q0,q1,q2,q3,q4]],gh⟩=some (.normal,⟨[(2,.ptr false 0 0),(5,.sl false 1 L),(6,.ptr false 1 0),(7,I r),(8,I i),(9,.sl false 1 (SL8 (w::u::rest))),(10,I b),(11,I ((k+1:Nat):Int))],[nilM,[q0,q1,q2,q3,q4]],gh⟩):=fun b=>by
   refine qd7_ ?_
   simp only[qd7,e2]
   simp
  have hle:(k:Int)≤23:=by omega
  have hn2:(1:Int)<(rest.length:Int)+1+1:=by omega
  by_cases hw:u=wordB (k:Int)
  ·rw[if_pos hw]
   have he:(wordB (k:Int)==u)=true:=by simp[hw]
   have hkk:=hk1 (k:Int)
   have hrr:=hrec (k:Int)
   clear hk1 hrec hw
   generalize wordB (k:Int)=W at *
   refine jfn (q3u_ (s:=⟨[(2,.ptr false 0 0),(5,.sl false 1 L),(6,.ptr false 1 0),(7,I r),(8,I i),(9,.sl false 1 (SL8 (w::u::rest))),(10,I (k:Nat)),(11,I ((k+1:Nat):Int))],[nilM,[q0,q1,q2,q3,q4]],gh⟩) ?h2) hrr
   case h2=>
    simp only[List.map_cons] at hkk ⊢
    generalize ((k+1:Nat):Int)=T at *
    simp[q3u,hle,hn2,hkw,he,hkk,show Nat.ble 1 2=true from rfl,show Nat.ble 2 2=true from rfl]
  ·rw[if_neg hw]
   have he:(wordB (k:Int)==u)=false:=by
    cases hh:(wordB (k:Int)==u) with
    |false=>rfl
    |true=>exact absurd (by simpa using hh:wordB (k:Int)=u).symm hw
   have hkk:=hk1 b
   have hrr:=hrec b
   clear hk1 hrec hw
   generalize wordB (k:Int)=W at *
   refine jfn (q3u_ (s:=⟨[(2,.ptr false 0 0),(5,.sl false 1 L),(6,.ptr false 1 0),(7,I r),(8,I i),(9,.sl false 1 (SL8 (w::u::rest))),(10,I b),(11,I ((k+1:Nat):Int))],[nilM,[q0,q1,q2,q3,q4]],gh⟩) ?h3) hrr
   case h3=>
    simp only[List.map_cons] at hkk ⊢
    generalize ((k+1:Nat):Int)=T at *
    simp[q3u,hle,hn2,hkw,he,hkk,show Nat.ble 1 2=true from rfl,show Nat.ble 2 2=true from rfl]
theorem jt2 {L:List PV} {i:Int} {w:List UInt8} {q0 q1 q2 q3 q4:PV} :
  runL pg q33 ⟨[(2,.ptr false 0 0),(5,.sl false 1 L),(6,.ptr false 1 0),(7,I r),(8,I i),(9,.sl false 1 (SL8 [w])),(10,I 0),(11,I 1)],[nilM,[q0,q1,q2,q3,q4]],gh⟩=
   some (.normal,⟨[(2,.ptr false 0 0),(5,.sl false 1 L),(6,.ptr false 1 0),(7,I r),(8,I i),(9,.sl false 1 (SL8 [w])),(10,I 0)],[nilM,[q0,q1,q2,q3,q4]],gh⟩):=by
 refine (jfr (s1:=⟨[(2,.ptr false 0 0),(5,.sl false 1 L),(6,.ptr false 1 0),(7,I r),(8,I i),(9,.sl false 1 (SL8 [w])),(10,I 0),(11,I 1),(43,B false)],[nilM,[q0,q1,q2,q3,q4]],gh⟩) (q3u_ ?h1)).trans ?r1
 case h1=>simp[q3u]
 case r1=>simp[keep,stays]
abbrev v3 (L:List PV) (r i kd:Int) (ws:List (List UInt8)) (acc:List Int) (f:Bool) (k:Nat) (M:List PV) (gh:List GObj):St:=
 ⟨[(2,.ptr false 0 0),(5,.sl false 1 L),(6,.ptr false 1 0),(7,I r),(8,I i),(9,.sl false 1 (SL8 ws)),(10,I kd),(12,.sl true 1 (acc.map I)),(13,B f),(14,I (k:Nat))],[nilM,M],gh⟩
theorem pm_l3 {L:List PV} {i kd:Int} {ws:List (List UInt8)} {M:List PV} {q0 q1 q2 q3 q4:PV} (hM:M=[q0,q1,q2,q3,q4]) (hl:ws.length≤100000):∀n k acc f,k+n=ws.length→2≤k→acc.length≤k→
  runL pg q34 (v3 L r i kd ws acc f k M gh)=
   some (.normal,⟨[(2,.ptr false 0 0),(5,.sl false 1 L),(6,.ptr false 1 0),(7,I r),(8,I i),(9,.sl false 1 (SL8 ws)),(10,I kd),(12,.sl true 1 ((acc++(ws.drop k).map undK).map I)),(13,B (f&&(ws.drop k).all fun x=>decide (0≤undK x)))],[nilM,M],gh⟩)
 |0,k,acc,f,h,_,_=>by
  subst hM
  have hlt:¬k<ws.length:=by omega
  have hsl:(SL8 ws).length=ws.length:=List.length_map _
  rw[List.drop_eq_nil_of_le (by omega)]
  rw[←hsl] at hlt
  unfold v3
  generalize SL8 ws=W at *
  generalize hA:acc.map I=A at *
  refine (jfr (s1:=⟨[(2,.ptr false 0 0),(5,.sl false 1 L),(6,.ptr false 1 0),(7,I r),(8,I i),(9,.sl false 1 W),(10,I kd),(12,.sl true 1 A),(13,B f),(14,I (k:Nat)),(56,B false)],[nilM,[q0,q1,q2,q3,q4]],gh⟩) (q2c_ ?h1)).trans ?r1
  case h1=>simp[q2c,hlt]
  case r1=>simp[keep,stays,hA]
 | n+1,k,acc,f,h,h2,ha=>by
  subst hM
  have hlt:k<ws.length:=by omega
  have hsl:(SL8 ws).length=ws.length:=List.length_map _
  have e2:IntKind.i64.wrap ((k:Int)+1)=((k+1:Nat):Int):=by rw[jfp (by omega) (by omega)];omega
  have hx:(SL8 ws)[k]?=some (.str (bA ws[k])):=by simp[List.getElem?_eq_getElem hlt]
  rw[List.drop_eq_getElem_cons hlt]
  generalize ws[k]=x at *
  have hu:=fun G=>jjj (gh:=G) (x:=x)
  have hrec:=pm_l3 (L:=L) (i:=i) (kd:=kd) (ws:=ws) (M:=[q0,q1,q2,q3,q4]) rfl hl n (k+1) (acc++[undK x]) (f&&decide (0≤undK x)) (by omega) (by omega) (by simp;omega)
  rw[List.map_cons,List.all_cons,←Bool.and_assoc]
  rw[List.append_assoc,List.singleton_append] at hrec
  generalize undK x=z at *
  have hfit:((acc.map I).length+1)*8≤maxBytes:=Nat.le_trans (by rw[List.length_map];omega:_≤800008) (by decide)
  have hlt':=hlt
  rw[←hsl] at hlt'
  have h1k:(1:Int)<(k:Int):=by omega
  have hk3:∀(A:List PV) (b:Bool),runL pg qg ⟨[(2,.ptr false 0 0),(5,.sl false 1 L),(6,.ptr false 1 0),(7,I r),(8,I i),(9,.sl false 1 (SL8 ws)),(10,I kd),(12,.sl true 1 A),(13,B b),(14,I (k:Nat))],[nilM,[q0,q1,q2,q3,q4]],gh⟩=some (.normal,⟨[(2,.ptr false 0 0),(5,.sl false 1 L),(6,.ptr false 1 0),(7,I r),(8,I i),(9,.sl false 1 (SL8 ws)),(10,I kd),(12,.sl true 1 A),(13,B b),(14,I ((k+1:Nat):Int))],[nilM,[q0,q1,q2,q3,q4]],gh⟩):=fun A b=>by
   refine q8r_ ?_
   simp only[q8r,e2]
   simp
  unfold v3 at *
  rw[List.map_append] at hrec
  simp only[List.map_cons,List.map_nil] at hrec
  refine jfn (q2c_ (s:=⟨[(2,.ptr false 0 0),(5,.sl false 1 L),(6,.ptr false 1 0),(7,I r),(8,I i),(9,.sl false 1 (SL8 ws)),(10,I kd),(12,.sl true 1 (acc.map I++[I z])),(13,B (f&&decide (0≤z))),(14,I ((k+1:Nat):Int))],[nilM,[q0,q1,q2,q3,q4]],gh⟩) ?h2) hrec
  case h2=>
   clear hrec
   generalize SL8 ws=W at *
   generalize acc.map I=A at *
   generalize ((k+1:Nat):Int)=T at *
   have hD:decide ((k:Int)<(W.length:Int))=true:=decide_eq_true (by omega)
   clear hlt'
   simp only[q2c,degr,isC_sl,jh9,hD,jg4]
   cases f
   ·simp[h1k,hx,hu,apX,hfit,hk3,show Nat.ble 1 2=true from rfl,show Nat.ble 2 2=true from rfl]
   ·simp[h1k,hx,hu,apX,hfit,hk3,show Nat.ble 1 2=true from rfl,show Nat.ble 2 2=true from rfl]
def thisK (w:List UInt8):Int:=if sortOf w<1 then 0 else sortOf w
theorem jjx (w:List UInt8):(w=[105,110,105,116]∧thisK w=1∧sortOf w=1)∨(w=[110,101,120,116]∧thisK w=2∧sortOf w=2)∨(w=[98,97,100]∧thisK w=3∧sortOf w=3)∨(w=[104,111,108,100]∧thisK w=4∧sortOf w=4)∨
  ((w==[105,110,105,116])=false∧(w==[110,101,120,116])=false∧(w==[98,97,100])=false∧(w==[104,111,108,100])=false∧thisK w=0∧sortOf w<1):=by
 by_cases h1:w=[105,110,105,116]
 ·left;subst h1;exact⟨rfl,by decide,by decide⟩
 by_cases h2:w=[110,101,120,116]
 ·right;left;subst h2;exact⟨rfl,by decide,by decide⟩
 by_cases h3:w=[98,97,100]
 ·right;right;left;subst h3;exact⟨rfl,by decide,by decide⟩
 by_cases h4:w=[104,111,108,100]
 ·right;right;right;left;subst h4;exact⟨rfl,by decide,by decide⟩
 right;right;right;right
 have hs:sortOf w<1:=by
  unfold sortOf sortsL
  simp only[idxF,if_neg h1,if_neg h2,if_neg h3,if_neg h4]
  split<;>decide
 refine⟨by simp[h1],by simp[h2],by simp[h3],by simp[h4],?_,hs⟩
 unfold thisK
 rw[if_pos hs]
def numW (w:List UInt8) (rest:List (List UInt8)):List (List UInt8):=if sortOf w<1 then rest.drop 1 else rest
theorem jt3 {L:List PV} {i kd:Int} {w:List UInt8} {rest:List (List UInt8)} {q0 q1 q2 q3 q4:PV} (hl:rest.length≤90000) :
  runL pg q34 (v3 L r i kd (w::rest) [] true 1 [q0,q1,q2,q3,q4] gh)=
   some (.normal,⟨[(2,.ptr false 0 0),(5,.sl false 1 L),(6,.ptr false 1 0),(7,I r),(8,I i),(9,.sl false 1 (SL8 (w::rest))),(10,I kd),(12,.sl true 1 (((numW w rest).map undK).map I)),(13,B ((numW w rest).all fun x=>decide (0≤undK x)))],[nilM,[q0,q1,q2,q3,q4]],gh⟩):=by
 match rest with
 |[]=>
  have hnw:numW w []=[]:=by unfold numW;split<;>rfl
  rw[hnw]
  unfold v3
  refine (jfr (s1:=⟨[(2,.ptr false 0 0),(5,.sl false 1 L),(6,.ptr false 1 0),(7,I r),(8,I i),(9,.sl false 1 (SL8 [w])),(10,I kd),(12,.sl true 1 []),(13,B true),(14,I ((1:Nat):Int)),(56,B false)],[nilM,[q0,q1,q2,q3,q4]],gh⟩) (q2c_ ?h1)).trans ?r1
  case h1=>simp[q2c]
  case r1=>simp[keep,stays]
 | u ::rest=>
  have hn2:(1:Int)<(rest.length:Int)+1+1:=by omega
  have hu:=fun G=>jjj (gh:=G) (x:=u)
  have hrec:=fun acc f ha=>pm_l3 (gh:=gh) (r:=r) (L:=L) (i:=i) (kd:=kd) (ws:=w::u::rest) (M:=[q0,q1,q2,q3,q4]) rfl (by simp at hl ⊢;omega) rest.length 2 acc f (by simp;omega) (by omega) ha
  have e0:(w::u::rest).drop 2=rest:=rfl
  rw[e0] at hrec
  have e2:IntKind.i64.wrap ((1:Int)+1)=2:=by decide
  have hk3:∀(A:List PV) (b:Bool),runL pg qg ⟨[(2,.ptr false 0 0),(5,.sl false 1 L),(6,.ptr false 1 0),(7,I r),(8,I i),(9,.sl false 1 (SL8 (w::u::rest))),(10,I kd),(12,.sl true 1 A),(13,B b),(14,I 1)],[nilM,[q0,q1,q2,q3,q4]],gh⟩=some (.normal,⟨[(2,.ptr false 0 0),(5,.sl false 1 L),(6,.ptr false 1 0),(7,I r),(8,I i),(9,.sl false 1 (SL8 (w::u::rest))),(10,I kd),(12,.sl true 1 A),(13,B b),(14,I ((2:Nat):Int))],[nilM,[q0,q1,q2,q3,q4]],gh⟩):=fun A b=>by
   refine q8r_ ?_
   simp only[q8r,e2]
   simp
  have hfit:(0+1)*8≤maxBytes:=by decide
  unfold v3 at *
  have yes:sortOf w=1∨sortOf w=2∨sortOf w=3∨sortOf w=4→(w=[105,110,105,116]∨w=[110,101,120,116]∨w=[98,97,100]∨w=[104,111,108,100])→
    runL pg q34 ⟨[(2,.ptr false 0 0),(5,.sl false 1 L),(6,.ptr false 1 0),(7,I r),(8,I i),(9,.sl false 1 (SL8 (w::u::rest))),(10,I kd),(12,.sl true 1 []),(13,B true),(14,I ((1:Nat):Int))],[nilM,[q0,q1,q2,q3,q4]],gh⟩=
     some (.normal,⟨[(2,.ptr false 0 0),(5,.sl false 1 L),(6,.ptr false 1 0),(7,I r),(8,I i),(9,.sl false 1 (SL8 (w::u::rest))),(10,I kd),(12,.sl true 1 (((numW w (u::rest)).map undK).map I)),(13,B ((numW w (u::rest)).all fun x=>decide (0≤undK x)))],[nilM,[q0,q1,q2,q3,q4]],gh⟩):=by
   intro hs hw
   have hnw:numW w (u::rest)=u::rest:=by unfold numW;rw[if_neg (by omega)]
   rw[hnw,List.map_cons,List.all_cons]
   have hr:=hrec [undK u] (decide (0≤undK u)) (by simp)
   rw[List.singleton_append] at hr
   generalize undK u=z at *
   simp only[List.map_cons,List.map_nil] at hr ⊢
   refine jfn (q2c_ (s:=⟨[(2,.ptr false 0 0),(5,.sl false 1 L),(6,.ptr false 1 0),(7,I r),(8,I i),(9,.sl false 1 (SL8 (w::u::rest))),(10,I kd),(12,.sl true 1 [I z]),(13,B (decide (0≤z))),(14,I ((2:Nat):Int))],[nilM,[q0,q1,q2,q3,q4]],gh⟩) ?h2) hr
   case h2=>
    clear hr hrec
    simp only[List.map_cons] at hk3 ⊢
    have eI:(⟨#[105,110,105,116]⟩:ByteArray)=bA [105,110,105,116]:=rfl
    have eN:(⟨#[110,101,120,116]⟩:ByteArray)=bA [110,101,120,116]:=rfl
    have eB:(⟨#[98,97,100]⟩:ByteArray)=bA [98,97,100]:=rfl
    have eH:(⟨#[104,111,108,100]⟩:ByteArray)=bA [104,111,108,100]:=rfl
    simp only[q2c,eI,eN,eB,eH]
    rcases hw with rfl|rfl|rfl|rfl<;>simp[hn2,hu,apX,hfit,hk3,show Nat.ble 1 2=true from rfl,show Nat.ble 2 2=true from rfl]
  rcases jjx w with ⟨h,h1,h2⟩|⟨h,h1,h2⟩|⟨h,h1,h2⟩|⟨h,h1,h2⟩|⟨n1,n2,n3,n4,n5,n6⟩
  ·exact yes (by omega) (by simp[h])
  ·exact yes (by omega) (by simp[h])
  ·exact yes (by omega) (by simp[h])
  ·exact yes (by omega) (by simp[h])
  ·have hnw:numW w (u::rest)=rest:=by unfold numW;rw[if_pos n6];rfl
   rw[hnw]
   have hr:=hrec [] true (by simp)
   rw[List.nil_append,Bool.true_and] at hr
   simp only[List.map_nil] at hr ⊢
   refine jfn (q2c_ (s:=⟨[(2,.ptr false 0 0),(5,.sl false 1 L),(6,.ptr false 1 0),(7,I r),(8,I i),(9,.sl false 1 (SL8 (w::u::rest))),(10,I kd),(12,.sl true 1 []),(13,B true),(14,I ((2:Nat):Int))],[nilM,[q0,q1,q2,q3,q4]],gh⟩) ?h3) hr
   case h3=>
    clear hr hrec yes
    simp only[List.map_cons] at hk3 ⊢
    have eI:(⟨#[105,110,105,116]⟩:ByteArray)=bA [105,110,105,116]:=rfl
    have eN:(⟨#[110,101,120,116]⟩:ByteArray)=bA [110,101,120,116]:=rfl
    have eB:(⟨#[98,97,100]⟩:ByteArray)=bA [98,97,100]:=rfl
    have eH:(⟨#[104,111,108,100]⟩:ByteArray)=bA [104,111,108,100]:=rfl
    simp only[q2c,eI,eN,eB,eH]
    simp[hn2,n1,n2,n3,n4,hk3,show Nat.ble 1 2=true from rfl,show Nat.ble 2 2=true from rfl]
end
end Go.Lw
end

/-! Models out of texts: the document's ParseModel: what a line changes. -/
section
namespace Go.Lw
open Go
section
variable {gh:List GObj} {m:Md} {L:List PV} {i:Int}
abbrev e5 (L:List PV) (t i:Int):List (Nat×PV):=[(2,.ptr false 0 0),(5,.sl false 1 L),(6,.ptr false 1 0),(7,I t),(8,I i)]
theorem pm_k12 {x:Nd} {t:Int} (hl:m.nodes.length≤20000) :
  runL pg q1z ⟨[(2,.ptr false 0 0),(5,.sl false 1 L),(6,.ptr false 1 0),(7,I t),(8,I i),(17,.ptr false 2 0)],[nilM,mR m,nC x],gh⟩=some (.normal,⟨e5 L t i,[nilM,mR (addN m x)],gh⟩):=by
 have hfit:((m.nodes.map nodeV).length+1)*48≤maxBytes:=Nat.le_trans (by rw[List.length_map];omega:_≤20001*48) (by decide)
 have er:mR (addN m x)=[.sl true 6 (m.nodes.map nodeV++[.agg [I x.k,I x.w,I x.a,I x.b,I x.c,I x.n]]),.sl true 2 (m.inits.map andV),.sl true 2 (m.nexts.map andV),.sl true 1 (m.bads.map I),.sl true 1 (m.holds.map I)]:=by simp[mR,addN,nodeV]
 rw[er]
 refine qd8_ ?_
 generalize m.nodes.map nodeV=q0 at *
 generalize m.inits.map andV=q1 at *
 generalize m.nexts.map andV=q2 at *
 generalize m.bads.map I=q3 at *
 generalize m.holds.map I=q4 at *
 simp[qd8,apX,hfit]
theorem getV {v:List Int} {j:Nat} (h:j<v.length):(v.map I)[j]?=some (I (v.getD j 0)):=by
 rw[List.getElem?_map,List.getElem?_eq_getElem h,List.getD_eq_getElem?_getD,List.getElem?_eq_getElem h];rfl
theorem pm_k11 {kd w a b c t:Int} {v:List Int} (hl:m.nodes.length≤20000) (hv:(v.length:Int)=wantK kd) :
  runL pg q35 ⟨[(2,.ptr false 0 0),(5,.sl false 1 L),(6,.ptr false 1 0),(7,I t),(8,I i),(10,I kd),(12,.sl true 1 (v.map I)),(16,I (wantK kd)),(17,.ptr false 2 0)],[nilM,mR m,[I kd,I w,I a,I b,I c,I 0]],gh⟩=
   some (.normal,⟨e5 L t i,[nilM,mR (addN m ⟨kd,w,a,b,c,if kd=1∨kd=21 then v.getD (wantK kd-1).toNat 0 else 0⟩)],gh⟩):=by
 have ht:=jga kd
 have h12:=fun n=>pm_k12 (gh:=gh) (m:=m) (L:=L) (i:=i) (t:=t) (x:=⟨kd,w,a,b,c,n⟩) hl
 refine q57_ ?_
 by_cases hc:kd=1∨kd=21
 ·rw[if_pos hc]
  have hw:wantK kd=2+takesOf kd:=by unfold wantK;rw[if_pos hc];omega
  have e1:IntKind.i64.wrap (wantK kd-1)=wantK kd-1:=jfp (by omega) (by omega)
  have hg:=getV (v:=v) (j:=(wantK kd-1).toNat) (by omega)
  have h1k:(1:Int)≤wantK kd:=by omega
  have hh:=h12 (v.getD (wantK kd-1).toNat 0)
  unfold nC at hh
  simp only at hh
  generalize v.getD (wantK kd-1).toNat 0=z at *
  generalize v.map I=V at *
  generalize mR (addN m ⟨kd,w,a,b,c,z⟩)=M2 at *
  unfold mR at *
  generalize m.nodes.map nodeV=q0 at *
  generalize m.inits.map andV=q1 at *
  generalize m.nexts.map andV=q2 at *
  generalize m.bads.map I=q3 at *
  generalize m.holds.map I=q4 at *
  generalize hW:wantK kd=W at *
  generalize hN:(W-1).toNat=N at *
  clear h12 ht hw hv
  by_cases h1:kd=1
  ·simp[q57,h1,e1,hN,hg,h1k]
   simp[h1] at hh
   simp[hh]
  ·have h2:kd=21:=hc.resolve_left h1
   simp[q57,h2,e1,hN,hg,h1k]
   simp[h2] at hh
   simp[hh]
 ·rw[if_neg hc]
  have h1:¬kd=1:=fun h=>hc (.inl h)
  have h2:¬kd=21:=fun h=>hc (.inr h)
  have hh:=h12 0
  unfold nC at hh
  simp only at hh
  generalize v.map I=V at *
  generalize mR (addN m ⟨kd,w,a,b,c,0⟩)=M2 at *
  unfold mR at *
  generalize m.nodes.map nodeV=q0 at *
  generalize m.inits.map andV=q1 at *
  generalize m.nexts.map andV=q2 at *
  generalize m.bads.map I=q3 at *
  generalize m.holds.map I=q4 at *
  simp[q57,h1,h2,hh]
theorem pm_k10 {kd w a b t:Int} {v:List Int} (hl:m.nodes.length≤20000) (hv:(v.length:Int)=wantK kd) :
  runL pg q36 ⟨[(2,.ptr false 0 0),(5,.sl false 1 L),(6,.ptr false 1 0),(7,I t),(8,I i),(10,I kd),(12,.sl true 1 (v.map I)),(16,I (wantK kd)),(17,.ptr false 2 0)],[nilM,mR m,[I kd,I w,I a,I b,I 0,I 0]],gh⟩=
   some (.normal,⟨e5 L t i,[nilM,mR (addN m ⟨kd,w,a,b,if 2<takesOf kd then v.getD 3 0 else 0,if kd=1∨kd=21 then v.getD (wantK kd-1).toNat 0 else 0⟩)],gh⟩):=by
 have hT:=fun G=>jg7 kd G
 have hwk:takesOf kd+1≤wantK kd:=by unfold wantK;split<;>omega
 have h11:=fun c=>pm_k11 (gh:=gh) (m:=m) (L:=L) (i:=i) (t:=t) (kd:=kd) (w:=w) (a:=a) (b:=b) (c:=c) (v:=v) hl hv
 refine q8s_ ?_
 by_cases h2:2<takesOf kd
 ·rw[if_pos h2]
  have hg:=getV (v:=v) (j:=3) (by omega)
  have hh:=h11 (v.getD 3 0)
  generalize v.getD 3 0=z at *
  generalize mR (addN m _)=M2 at *
  generalize v.map I=V at *
  unfold mR at *
  generalize m.nodes.map nodeV=q0 at *
  generalize m.inits.map andV=q1 at *
  generalize m.nexts.map andV=q2 at *
  generalize m.bads.map I=q3 at *
  generalize m.holds.map I=q4 at *
  generalize takesOf kd=tk at *
  simp[q8s,hT,h2,hg,hh]
 ·rw[if_neg h2]
  have hh:=h11 0
  generalize mR (addN m _)=M2 at *
  generalize v.map I=V at *
  unfold mR at *
  generalize m.nodes.map nodeV=q0 at *
  generalize m.inits.map andV=q1 at *
  generalize m.nexts.map andV=q2 at *
  generalize m.bads.map I=q3 at *
  generalize m.holds.map I=q4 at *
  generalize takesOf kd=tk at *
  simp[q8s,hT,h2,hh]
theorem pm_k9 {kd w a t:Int} {v:List Int} (hl:m.nodes.length≤20000) (hv:(v.length:Int)=wantK kd) :
  runL pg q37 ⟨[(2,.ptr false 0 0),(5,.sl false 1 L),(6,.ptr false 1 0),(7,I t),(8,I i),(10,I kd),(12,.sl true 1 (v.map I)),(16,I (wantK kd)),(17,.ptr false 2 0)],[nilM,mR m,[I kd,I w,I a,I 0,I 0,I 0]],gh⟩=
   some (.normal,⟨e5 L t i,[nilM,mR (addN m ⟨kd,w,a,if 1<takesOf kd then v.getD 2 0 else 0,if 2<takesOf kd then v.getD 3 0 else 0,if kd=1∨kd=21 then v.getD (wantK kd-1).toNat 0 else 0⟩)],gh⟩):=by
 have hT:=fun G=>jg7 kd G
 have hwk:takesOf kd+1≤wantK kd:=by unfold wantK;split<;>omega
 have h10:=fun b=>pm_k10 (gh:=gh) (m:=m) (L:=L) (i:=i) (t:=t) (kd:=kd) (w:=w) (a:=a) (b:=b) (v:=v) hl hv
 refine q8t_ ?_
 by_cases h2:1<takesOf kd
 ·rw[if_pos h2]
  have hg:=getV (v:=v) (j:=2) (by omega)
  have hh:=h10 (v.getD 2 0)
  generalize v.getD 2 0=z at *
  generalize mR (addN m _)=M2 at *
  generalize v.map I=V at *
  unfold mR at *
  generalize m.nodes.map nodeV=q0 at *
  generalize m.inits.map andV=q1 at *
  generalize m.nexts.map andV=q2 at *
  generalize m.bads.map I=q3 at *
  generalize m.holds.map I=q4 at *
  generalize takesOf kd=tk at *
  simp[q8t,hT,h2,hg,hh]
 ·rw[if_neg h2]
  have hh:=h10 0
  generalize mR (addN m _)=M2 at *
  generalize v.map I=V at *
  unfold mR at *
  generalize m.nodes.map nodeV=q0 at *
  generalize m.inits.map andV=q1 at *
  generalize m.nexts.map andV=q2 at *
  generalize m.bads.map I=q3 at *
  generalize m.holds.map I=q4 at *
  generalize takesOf kd=tk at *
  simp[q8t,hT,h2,hh]
def newM (m:Md) (t kd:Int) (v:List Int):Md:=if t=0 then addN m (mkNd kd v) else addS m t v
abbrev errM (i:Int) (gh:List GObj):Option (IExit×St):=some (.ret,⟨[(2,.ptr false 0 0),(3,I (i+1)),(4,I 1)],[nilM],gh⟩)
theorem pm_k8 {r kd t want:Int} {v:List Int} {b:Bool} (hz:MdZ m 20000) (hi:0≤i∧i≤1000000) (ht:0≤t∧t≤4) (hw:want=if t=0 then wantK kd else manyOf t) :
  runL pg q1n ⟨[(2,.ptr false 0 0),(5,.sl false 1 L),(6,.ptr false 1 0),(7,I r),(8,I i),(10,I kd),(12,.sl true 1 (v.map I)),(13,B b),(15,I t),(16,I want)],[nilM,mR m],gh⟩=
   if b=true∧(v.length:Int)=want∧r≤t then some (.normal,⟨e5 L t i,[nilM,mR (newM m t kd v)],gh⟩) else errM i gh:=by
 have e1:IntKind.i64.wrap (i+1)=i+1:=jfp (by omega) (by omega)
 have hvl:(v.map I).length=v.length:=List.length_map _
 by_cases hb:b=true
 ·subst hb
  by_cases hv:(v.length:Int)=want
  ·by_cases hr:r≤t
   ·rw [if_pos ⟨rfl,hv,hr⟩]
    have hr':¬t<r:=by omega
    have hv':((v.map I).length:Int)=want:=by rw[hvl];exact hv
    refine qr_ ?_
    by_cases h0:t=0
    ·subst h0
     rw[if_pos rfl] at hw
     have hT:=fun G=>jg7 kd G
     have hwk:takesOf kd+1≤wantK kd:=by unfold wantK;split<;>omega
     have htk:=jga kd
     have h9:=fun w a=>pm_k9 (gh:=gh) (m:=m) (L:=L) (i:=i) (t:=0) (kd:=kd) (w:=w) (a:=a) (v:=v) hz.nodes (by omega)
     have hg0:=getV (v:=v) (j:=0) (by omega)
     rw[←hw] at h9
     have eM:newM m 0 kd v=addN m ⟨kd,v.getD 0 0,if 0<takesOf kd then v.getD 1 0 else 0,if 1<takesOf kd then v.getD 2 0 else 0,if 2<takesOf kd then v.getD 3 0 else 0,if kd=1∨kd=21 then v.getD (wantK kd-1).toNat 0 else 0⟩:=by
      unfold newM mkNd;rw[if_pos rfl]
     rw[eM]
     by_cases h1:0<takesOf kd
     ·rw[if_pos h1]
      have hg1:=getV (v:=v) (j:=1) (by omega)
      have hh:=h9 (v.getD 0 0) (v.getD 1 0)
      rw[←hw]
      clear h9 eM
      generalize v.getD 0 0=z0 at *
      generalize v.getD 1 0=z1 at *
      generalize mR (addN m _)=M2 at *
      generalize v.map I=V at *
      unfold mR at *
      generalize m.nodes.map nodeV=q0 at *
      generalize m.inits.map andV=q1 at *
      generalize m.nexts.map andV=q2 at *
      generalize m.bads.map I=q3 at *
      generalize m.holds.map I=q4 at *
      generalize takesOf kd=tk at *
      simp[qr,hv',hr',hT,h1,hg0,hg1,hh,show Nat.ble 1 2=true from rfl,show Nat.ble 2 2=true from rfl]
     ·rw[if_neg h1]
      have hh:=h9 (v.getD 0 0) 0
      rw[←hw]
      clear h9 eM
      generalize v.getD 0 0=z0 at *
      generalize mR (addN m _)=M2 at *
      generalize v.map I=V at *
      unfold mR at *
      generalize m.nodes.map nodeV=q0 at *
      generalize m.inits.map andV=q1 at *
      generalize m.nexts.map andV=q2 at *
      generalize m.bads.map I=q3 at *
      generalize m.holds.map I=q4 at *
      generalize takesOf kd=tk at *
      simp[qr,hv',hr',hT,h1,hg0,hh,show Nat.ble 1 2=true from rfl,show Nat.ble 2 2=true from rfl]
    ·rw[if_neg h0] at hw
     have eM:newM m t kd v=addS m t v:=by unfold newM;rw[if_neg h0]
     rw[eM]
     have z1:((m.inits.map andV).length+1)*16≤maxBytes:=Nat.le_trans (by have:=hz.inits;rw[List.length_map];omega:_≤20001*16) (by decide)
     have z2:((m.nexts.map andV).length+1)*16≤maxBytes:=Nat.le_trans (by have:=hz.nexts;rw[List.length_map];omega:_≤20001*16) (by decide)
     have z3:((m.bads.map I).length+1)*8≤maxBytes:=Nat.le_trans (by have:=hz.bads;rw[List.length_map];omega:_≤20001*8) (by decide)
     have z4:((m.holds.map I).length+1)*8≤maxBytes:=Nat.le_trans (by have:=hz.holds;rw[List.length_map];omega:_≤20001*8) (by decide)
     have hcase:t=1∨t=2∨t=3∨t=4:=by omega
     rcases hcase with rfl|rfl|rfl|rfl
     ·have hw2:want=2:=hw
      subst hw2
      match v,hv with
      |[a,c],_=>
       have er:mR (addS m 1 [a,c])=[.sl true 6 (m.nodes.map nodeV),.sl true 2 (m.inits.map andV++[.agg [I a,I c]]),.sl true 2 (m.nexts.map andV),.sl true 1 (m.bads.map I),.sl true 1 (m.holds.map I)]:=by simp[mR,addS,andV]
       rw[er]
       generalize m.nodes.map nodeV=q0 at *
       generalize m.inits.map andV=q1 at *
       generalize m.nexts.map andV=q2 at *
       generalize m.bads.map I=q3 at *
       generalize m.holds.map I=q4 at *
       simp[qr,hr',apX,z1,degr1]
     ·have hw2:want=2:=hw
      subst hw2
      match v,hv with
      |[a,c],_=>
       have er:mR (addS m 2 [a,c])=[.sl true 6 (m.nodes.map nodeV),.sl true 2 (m.inits.map andV),.sl true 2 (m.nexts.map andV++[.agg [I a,I c]]),.sl true 1 (m.bads.map I),.sl true 1 (m.holds.map I)]:=by simp[mR,addS,andV]
       rw[er]
       generalize m.nodes.map nodeV=q0 at *
       generalize m.inits.map andV=q1 at *
       generalize m.nexts.map andV=q2 at *
       generalize m.bads.map I=q3 at *
       generalize m.holds.map I=q4 at *
       simp[qr,hr',apX,z2,degr1]
     ·have hw2:want=1:=hw
      subst hw2
      match v,hv with
      |[a],_=>
       have er:mR (addS m 3 [a])=[.sl true 6 (m.nodes.map nodeV),.sl true 2 (m.inits.map andV),.sl true 2 (m.nexts.map andV),.sl true 1 (m.bads.map I++[I a]),.sl true 1 (m.holds.map I)]:=by simp[mR,addS]
       rw[er]
       generalize m.nodes.map nodeV=q0 at *
       generalize m.inits.map andV=q1 at *
       generalize m.nexts.map andV=q2 at *
       generalize m.bads.map I=q3 at *
       generalize m.holds.map I=q4 at *
       simp[qr,hr',apX,z3,degr1]
     ·have hw2:want=1:=hw
      subst hw2
      match v,hv with
      |[a],_=>
       have er:mR (addS m 4 [a])=[.sl true 6 (m.nodes.map nodeV),.sl true 2 (m.inits.map andV),.sl true 2 (m.nexts.map andV),.sl true 1 (m.bads.map I),.sl true 1 (m.holds.map I++[I a])]:=by simp[mR,addS]
       rw[er]
       generalize m.nodes.map nodeV=q0 at *
       generalize m.inits.map andV=q1 at *
       generalize m.nexts.map andV=q2 at *
       generalize m.bads.map I=q3 at *
       generalize m.holds.map I=q4 at *
       simp[qr,hr',apX,z4,degr1]
   ·rw[if_neg (fun h=>hr h.2.2)]
    have hv':((v.map I).length:Int)=want:=by rw[hvl];exact hv
    refine qr_ ?_
    generalize v.map I=V at *
    simp[qr,hv',show t<r by omega,e1]
  ·rw[if_neg (fun h=>hv h.2.1)]
   have hv':¬((v.map I).length:Int)=want:=by rw[hvl];exact hv
   refine qr_ ?_
   generalize v.map I=V at *
   simp[qr,hv',e1]
 ·have hb:b=false:=by simpa using hb
  subst hb
  rw[if_neg (by simp)]
  refine qr_ ?_
  generalize v.map I=V at *
  simp[qr,e1]
def fineK (m:Md) (w:List UInt8) (kd t:Int) (rest:List (List UInt8)):Bool:=
 let f:=(numW w rest).all fun x=>decide (0≤undK x)
 if t=0 then f&&(decide (undK w=(m.nodes.length:Int))&&decide (0<kd)) else f
def wantT (t kd:Int):Int:=if t=0 then wantK kd else manyOf t
theorem pm_k6 {r kd t w16:Int} {v:List Int} {w:List UInt8} {rest:List (List UInt8)} (hz:MdZ m 20000) (hi:0≤i∧i≤1000000) (ht:0≤t∧t≤4) (hw:t≠0→w16=manyOf t) :
  runL pg q38 ⟨[(2,.ptr false 0 0),(5,.sl false 1 L),(6,.ptr false 1 0),(7,I r),(8,I i),(9,.sl false 1 (SL8 (w::rest))),(10,I kd),(12,.sl true 1 (v.map I)),(13,B ((numW w rest).all fun x=>decide (0≤undK x))),(15,I t),(16,I w16)],[nilM,mR m],gh⟩=
   if fineK m w kd t rest=true∧(v.length:Int)=wantT t kd∧r≤t then some (.normal,⟨e5 L t i,[nilM,mR (newM m t kd v)],gh⟩) else errM i gh:=by
 have h8:=fun (b:Bool)=>pm_k8 (gh:=gh) (m:=m) (L:=L) (i:=i) (r:=r) (kd:=kd) (t:=t) (want:=wantT t kd) (v:=v) (b:=b) hz hi ht rfl
 have hml:(m.nodes.map nodeV).length=m.nodes.length:=List.length_map _
 by_cases h0:t=0
 ·have e:fineK m w kd t rest=(((numW w rest).all fun x=>decide (0≤undK x))&&(decide (undK w=(m.nodes.length:Int))&&decide (0<kd))):=by unfold fineK;rw[if_pos h0]
  rw[e]
  have ewt:wantT t kd=wantK kd:=by unfold wantT;rw[if_pos h0]
  rw[ewt] at h8 ⊢
  generalize ((numW w rest).all fun x=>decide (0≤undK x))=f at *
  have hu:=fun G=>jjj (gh:=G) (x:=w)
  have hT:=fun G=>jg7 kd G
  have htk:=jga kd
  have f1:IntKind.i64.wrap (1+takesOf kd)=1+takesOf kd:=jfp (by omega) (by omega)
  have f2:IntKind.i64.wrap (1+takesOf kd+1)=1+takesOf kd+1:=jfp (by omega) (by omega)
  have h7:∀want:Int,runL pg q1y ⟨[(2,.ptr false 0 0),(5,.sl false 1 L),(6,.ptr false 1 0),(7,I r),(8,I i),(9,.sl false 1 (SL8 (w::rest))),(10,I kd),(12,.sl true 1 (v.map I)),(13,B f),(15,I t),(16,I want)],[nilM,mR m],gh⟩=
    some (.normal,⟨[(2,.ptr false 0 0),(5,.sl false 1 L),(6,.ptr false 1 0),(7,I r),(8,I i),(10,I kd),(12,.sl true 1 (v.map I)),(13,B (f&&(decide (undK w=(m.nodes.length:Int))&&decide (0<kd)))),(15,I t),(16,I want)],[nilM,mR m],gh⟩):=fun want=>by
   refine q56_ ?_
   rw[←hml]
   unfold mR
   generalize v.map I=V at *
   generalize m.nodes.map nodeV=q0 at *
   generalize m.inits.map andV=q1 at *
   generalize m.nexts.map andV=q2 at *
   generalize m.bads.map I=q3 at *
   generalize m.holds.map I=q4 at *
   generalize undK w=z at *
   cases f
   ·simp[q56]
   ·by_cases hz2:z=(q0.length:Int)
    ·simp[q56,hu,hz2]
    ·simp[q56,hu,hz2]
  have h7':=h7 (wantK kd)
  have h8':=h8 (f&&(decide (undK w=(m.nodes.length:Int))&&decide (0<kd)))
  clear h7 h8
  generalize (f&&(decide (undK w=(m.nodes.length:Int))&&decide (0<kd)))=bb at *
  obtain⟨ex,sx,hes⟩:∃ex sx,(if bb=true∧(v.length:Int)=wantK kd∧r≤t then some (IExit.normal,(⟨e5 L t i,[nilM,mR (newM m t kd v)],gh⟩:St)) else errM i gh)=some (ex,sx):=by split<;>exact⟨_,_,rfl⟩
  rw[hes] at h8' ⊢
  clear hes
  refine q3v_ ?_
  generalize v.map I=V at *
  have hwk:wantK kd=1+takesOf kd+(if kd=1∨kd=21 then 1 else 0):=rfl
  unfold mR at *
  generalize m.nodes.map nodeV=q0 at *
  generalize m.inits.map andV=q1 at *
  generalize m.nexts.map andV=q2 at *
  generalize m.bads.map I=q3 at *
  generalize m.holds.map I=q4 at *
  generalize takesOf kd=tk at *
  simp only[List.map_cons] at h7' ⊢
  subst h0
  by_cases hc1:kd=1
  ·rw[if_pos (.inl hc1)] at hwk
   rw[hwk] at h7' h8'
   subst hc1
   simp[q3v,hT,f1,f2,h7',h8',show Nat.ble 1 2=true from rfl,show Nat.ble 2 2=true from rfl]
  ·by_cases hc2:kd=21
   ·rw[if_pos (.inr hc2)] at hwk
    rw[hwk] at h7' h8'
    subst hc2
    simp[q3v,hT,f1,f2,h7',h8',show Nat.ble 1 2=true from rfl,show Nat.ble 2 2=true from rfl]
   ·rw[if_neg (by omega),Int.add_zero] at hwk
    rw[hwk] at h7' h8'
    simp[q3v,hT,hc1,hc2,f1,h7',h8',show Nat.ble 1 2=true from rfl,show Nat.ble 2 2=true from rfl]
 ·have e:fineK m w kd t rest=((numW w rest).all fun x=>decide (0≤undK x)):=by unfold fineK;rw[if_neg h0]
  rw[e]
  have ewt:wantT t kd=w16:=by unfold wantT;rw[if_neg h0,hw h0]
  rw[ewt] at h8 ⊢
  generalize ((numW w rest).all fun x=>decide (0≤undK x))=f at *
  have h8':=h8 f
  clear h8
  obtain⟨ex,sx,hes⟩:∃ex sx,(if f=true∧(v.length:Int)=w16∧r≤t then some (IExit.normal,(⟨e5 L t i,[nilM,mR (newM m t kd v)],gh⟩:St)) else errM i gh)=some (ex,sx):=by split<;>exact⟨_,_,rfl⟩
  rw[hes] at h8' ⊢
  clear hes
  refine q3v_ ?_
  generalize v.map I=V at *
  unfold mR at *
  generalize m.nodes.map nodeV=q0 at *
  generalize m.inits.map andV=q1 at *
  generalize m.nexts.map andV=q2 at *
  generalize m.bads.map I=q3 at *
  generalize m.holds.map I=q4 at *
  simp only[List.map_cons]
  simp[q3v,h0,h8']
theorem pm_k4 {r kd:Int} {v:List Int} {w:List UInt8} {rest:List (List UInt8)} (hz:MdZ m 20000) (hi:0≤i∧i≤1000000) :
  runL pg q4a ⟨[(2,.ptr false 0 0),(5,.sl false 1 L),(6,.ptr false 1 0),(7,I r),(8,I i),(9,.sl false 1 (SL8 (w::rest))),(10,I kd),(12,.sl true 1 (v.map I)),(13,B ((numW w rest).all fun x=>decide (0≤undK x)))],[nilM,mR m],gh⟩=
   if fineK m w kd (thisK w) rest=true∧(v.length:Int)=wantT (thisK w) kd∧r≤thisK w then some (.normal,⟨e5 L (thisK w) i,[nilM,mR (newM m (thisK w) kd v)],gh⟩) else errM i gh:=by
 have h5:∀t,0≤t∧t≤4→runL pg q1a ⟨[(2,.ptr false 0 0),(5,.sl false 1 L),(6,.ptr false 1 0),(7,I r),(8,I i),(9,.sl false 1 (SL8 (w::rest))),(10,I kd),(12,.sl true 1 (v.map I)),(13,B ((numW w rest).all fun x=>decide (0≤undK x))),(15,I t)],[nilM,mR m],gh⟩=
   if fineK m w kd t rest=true∧(v.length:Int)=wantT t kd∧r≤t then some (.normal,⟨e5 L t i,[nilM,mR (newM m t kd v)],gh⟩) else errM i gh:=fun t ht=>by
  have h6:=pm_k6 (gh:=gh) (m:=m) (L:=L) (i:=i) (r:=r) (kd:=kd) (t:=t) (w16:=manyOf t) (v:=v) (w:=w) (rest:=rest) hz hi ht (fun _=>rfl)
  obtain⟨ex,sx,hes⟩:∃ex sx,(if fineK m w kd t rest=true∧(v.length:Int)=wantT t kd∧r≤t then some (IExit.normal,(⟨e5 L t i,[nilM,mR (newM m t kd v)],gh⟩:St)) else errM i gh)=some (ex,sx):=by split<;>exact⟨_,_,rfl⟩
  rw[hes] at h6 ⊢
  clear hes
  refine q8u_ ?_
  generalize ((numW w rest).all fun x=>decide (0≤undK x))=f at *
  generalize v.map I=V at *
  unfold mR at *
  generalize m.nodes.map nodeV=q0 at *
  generalize m.inits.map andV=q1 at *
  generalize m.nexts.map andV=q2 at *
  generalize m.bads.map I=q3 at *
  generalize m.holds.map I=q4 at *
  simp only[List.map_cons] at h6 ⊢
  unfold manyOf at h6
  by_cases h2:2<t
  ·rw[if_pos h2] at h6
   simp[q8u,h2,h6]
  ·rw[if_neg h2] at h6
   simp[q8u,h2,h6]
 have eI:(⟨#[105,110,105,116]⟩:ByteArray)=bA [105,110,105,116]:=rfl
 have eN:(⟨#[110,101,120,116]⟩:ByteArray)=bA [110,101,120,116]:=rfl
 have eB:(⟨#[98,97,100]⟩:ByteArray)=bA [98,97,100]:=rfl
 have eH:(⟨#[104,111,108,100]⟩:ByteArray)=bA [104,111,108,100]:=rfl
 have h5':=h5 (thisK w) (by rcases jjx w with ⟨h,h1,h2⟩|⟨h,h1,h2⟩|⟨h,h1,h2⟩|⟨h,h1,h2⟩|⟨n1,n2,n3,n4,n5,n6⟩<;>omega)
 clear h5
 obtain⟨ex,sx,hes⟩:∃ex sx,(if fineK m w kd (thisK w) rest=true∧(v.length:Int)=wantT (thisK w) kd∧r≤thisK w then some (IExit.normal,(⟨e5 L (thisK w) i,[nilM,mR (newM m (thisK w) kd v)],gh⟩:St)) else errM i gh)=some (ex,sx):=by split<;>exact⟨_,_,rfl⟩
 rw[hes] at h5' ⊢
 clear hes
 refine qd9_ ?_
 generalize ((numW w rest).all fun x=>decide (0≤undK x))=f at *
 generalize v.map I=V at *
 unfold mR at *
 generalize m.nodes.map nodeV=q0 at *
 generalize m.inits.map andV=q1 at *
 generalize m.nexts.map andV=q2 at *
 generalize m.bads.map I=q3 at *
 generalize m.holds.map I=q4 at *
 simp only[List.map_cons] at h5' ⊢
 simp only[qd9,eI,eN,eB,eH]
 rcases jjx w with ⟨h,h1,h2⟩|⟨h,h1,h2⟩|⟨h,h1,h2⟩|⟨h,h1,h2⟩|⟨n1,n2,n3,n4,n5,n6⟩
 ·rw[h1] at h5';subst h;simp[h5']
 ·rw[h1] at h5';subst h;simp[h5']
 ·rw[h1] at h5';subst h;simp[h5']
 ·rw[h1] at h5';subst h;simp[h5']
 ·rw[n5] at h5';simp[n1,n2,n3,n4,h5']
def kdOf:List (List UInt8)→Int
 |[]=>0
 |u::_=>kindOf u
def lineR (m:Md) (r:Int) (w:List UInt8) (rest:List (List UInt8)):Option (Md×Int):=
 if fineK m w (kdOf rest) (thisK w) rest=true∧(((numW w rest).map undK).length:Int)=wantT (thisK w) (kdOf rest)∧r≤thisK w then some (newM m (thisK w) (kdOf rest) ((numW w rest).map undK),thisK w) else none
theorem pm_k2 {r kd:Int} {w:List UInt8} {rest:List (List UInt8)} (hz:MdZ m 20000) (hi:0≤i∧i≤1000000) (hl:rest.length≤90000) (hk:kd=kdOf rest) :
  runL pg q4b ⟨[(2,.ptr false 0 0),(5,.sl false 1 L),(6,.ptr false 1 0),(7,I r),(8,I i),(9,.sl false 1 (SL8 (w::rest))),(10,I kd)],[nilM,mR m],gh⟩=
   match lineR m r w rest with
   |some (m',r')=>some (.normal,⟨e5 L r' i,[nilM,mR m'],gh⟩)
   |none=>errM i gh:=by
 have h4:=pm_k4 (gh:=gh) (m:=m) (L:=L) (i:=i) (r:=r) (kd:=kd) (v:=(numW w rest).map undK) (w:=w) (rest:=rest) hz hi
 have h3:=fun q0 q1 q2 q3 q4=>jt3 (gh:=gh) (r:=r) (L:=L) (i:=i) (kd:=kd) (w:=w) (rest:=rest) (q0:=q0) (q1:=q1) (q2:=q2) (q3:=q3) (q4:=q4) hl
 have hR:(match lineR m r w rest with
   |some (m',r')=>some (.normal,⟨e5 L r' i,[nilM,mR m'],gh⟩)
   |none=>errM i gh)=(if fineK m w kd (thisK w) rest=true∧(((numW w rest).map undK).length:Int)=wantT (thisK w) kd∧r≤thisK w then some (IExit.normal,(⟨e5 L (thisK w) i,[nilM,mR (newM m (thisK w) kd ((numW w rest).map undK))],gh⟩:St)) else errM i gh):=by
  unfold lineR
  rw[←hk]
  by_cases hcnd:fineK m w kd (thisK w) rest=true∧(((numW w rest).map undK).length:Int)=wantT (thisK w) kd∧r≤thisK w
  ·rw[if_pos hcnd,if_pos hcnd]
  ·rw[if_neg hcnd,if_neg hcnd]
 rw[hR]
 clear hR
 obtain⟨ex,sx,hes⟩:∃ex sx,(if fineK m w kd (thisK w) rest=true∧(((numW w rest).map undK).length:Int)=wantT (thisK w) kd∧r≤thisK w then some (IExit.normal,(⟨e5 L (thisK w) i,[nilM,mR (newM m (thisK w) kd ((numW w rest).map undK))],gh⟩:St)) else errM i gh)=some (ex,sx):=by split<;>exact⟨_,_,rfl⟩
 rw[hes] at h4 ⊢
 clear hes
 refine qda_ ?_
 unfold v3 at h3
 generalize ((numW w rest).all fun x=>decide (0≤undK x))=f at *
 generalize ((numW w rest).map undK).map I=V at *
 unfold mR at *
 have h3':=h3 (.sl true 6 (m.nodes.map nodeV)) (.sl true 2 (m.inits.map andV)) (.sl true 2 (m.nexts.map andV)) (.sl true 1 (m.bads.map I)) (.sl true 1 (m.holds.map I))
 clear h3
 generalize m.nodes.map nodeV=q0 at *
 generalize m.inits.map andV=q1 at *
 generalize m.nexts.map andV=q2 at *
 generalize m.bads.map I=q3 at *
 generalize m.holds.map I=q4 at *
 simp only[List.map_cons,List.map_nil,Int.natCast_one] at h3' h4 ⊢
 generalize rest.map (fun x=>PV.str (bA x))=R at *
 simp[qda,h3',h4]
theorem pm_b1 {r:Int} {ls:List (List UInt8)} {j:Nat} {x w:List UInt8} {rest:List (List UInt8)} (hz:MdZ m 20000) (hj:j+1<ls.length) (hls:ls.length≤100000) (hx:ls[j]?=some x) (hxl:x.length≤80000) (hs:splitK 32 x=w::rest) :
  runL pg q7a ⟨e5 (SL8 ls) r (j:Nat),[nilM,mR m],gh⟩=
   match lineR m r w rest with
   |some (m',r')=>some (.normal,⟨e5 (SL8 ls) r' ((j+1:Nat):Int),[nilM,mR m'],gh⟩)
   |none=>errM (j:Nat) gh:=by
 have hsl:=jgr 32 x
 rw[hs] at hsl
 simp only[List.length_cons] at hsl
 have hC:=fun G=>jly (gh:=G) (s:=x) (c:=32) (by omega)
 rw[hs] at hC
 have h32:((32:UInt8).toNat:Int)=32:=rfl
 simp only[h32] at hC
 have hg:(SL8 ls)[j]?=some (.str (bA x)):=by rw[List.getElem?_map,hx];rfl
 have hll:(SL8 ls).length=ls.length:=List.length_map _
 have e1:IntKind.i64.wrap (((SL8 ls).length:Int)-1)=((ls.length-1:Nat):Int):=by rw[hll,jfp (by omega) (by omega)];omega
 have e2:IntKind.i64.wrap ((j:Int)+1)=((j+1:Nat):Int):=by rw[jfp (by omega) (by omega)];omega
 have hD:decide ((j:Int)<((ls.length-1:Nat):Int))=true:=decide_eq_true (by omega)
 have h2:=pm_k2 (gh:=gh) (m:=m) (L:=SL8 ls) (i:=(j:Nat)) (r:=r) (kd:=kdOf rest) (w:=w) (rest:=rest) hz (by omega) (by omega) rfl
 have hl2:∀q0 q1 q2 q3 q4:PV,runL pg q33 ⟨[(2,.ptr false 0 0),(5,.sl false 1 (SL8 ls)),(6,.ptr false 1 0),(7,I r),(8,I (j:Nat)),(9,.sl false 1 (SL8 (w::rest))),(10,I 0),(11,I 1)],[nilM,[q0,q1,q2,q3,q4]],gh⟩=
   some (.normal,⟨[(2,.ptr false 0 0),(5,.sl false 1 (SL8 ls)),(6,.ptr false 1 0),(7,I r),(8,I (j:Nat)),(9,.sl false 1 (SL8 (w::rest))),(10,I (kdOf rest))],[nilM,[q0,q1,q2,q3,q4]],gh⟩):=fun q0 q1 q2 q3 q4=>by
  match rest with
  |[]=>exact jt2
  |u::rest=>
   have:=pm_l2 (gh:=gh) (r:=r) (L:=SL8 ls) (i:=(j:Nat)) (w:=w) (u:=u) (rest:=rest) (M:=[q0,q1,q2,q3,q4]) rfl 23 1 0 (by omega) (by omega)
   rw[Int.natCast_one,jt0 u] at this
   exact this
 have hk13:∀(t:Int) (q0 q1 q2 q3 q4:PV),runL pg q39 ⟨[(2,.ptr false 0 0),(5,.sl false 1 (SL8 ls)),(6,.ptr false 1 0),(7,I t),(8,I (j:Nat))],[nilM,[q0,q1,q2,q3,q4]],gh⟩=some (.normal,⟨[(2,.ptr false 0 0),(5,.sl false 1 (SL8 ls)),(6,.ptr false 1 0),(7,I t),(8,I ((j+1:Nat):Int))],[nilM,[q0,q1,q2,q3,q4]],gh⟩):=fun t q0 q1 q2 q3 q4=>by
  refine qdb_ ?_
  simp only[qdb,e2]
  simp
 have hl2':=hl2 (.sl true 6 (m.nodes.map nodeV)) (.sl true 2 (m.inits.map andV)) (.sl true 2 (m.nexts.map andV)) (.sl true 1 (m.bads.map I)) (.sl true 1 (m.holds.map I))
 rw[show (SL8 (w::rest))= .str (bA w)::SL8 rest from rfl] at hl2' h2 hC
 generalize SL8 rest=R at *
 generalize SL8 ls=W at *
 clear hl2
 cases hk:lineR m r w rest with
 |none=>
  rw[hk] at h2
  simp only at h2 ⊢
  refine q58_ ?_
  unfold mR at h2
  generalize m.nodes.map nodeV=q0 at *
  generalize m.inits.map andV=q1 at *
  generalize m.nexts.map andV=q2 at *
  generalize m.bads.map I=q3 at *
  generalize m.holds.map I=q4 at *
  simp only[q58,degr,isC_sl,jh9,e1,hD,jg4]
  simp[hg,hC,hl2',h2]
 |some p=>
  obtain⟨m',r'⟩:=p
  rw[hk] at h2
  simp only at h2 ⊢
  refine q58_ ?_
  have hk13':=hk13 r' (.sl true 6 (m'.nodes.map nodeV)) (.sl true 2 (m'.inits.map andV)) (.sl true 2 (m'.nexts.map andV)) (.sl true 1 (m'.bads.map I)) (.sl true 1 (m'.holds.map I))
  clear hk13
  unfold mR at h2 ⊢
  generalize m.nodes.map nodeV=q0 at *
  generalize m.inits.map andV=q1 at *
  generalize m.nexts.map andV=q2 at *
  generalize m.bads.map I=q3 at *
  generalize m.holds.map I=q4 at *
  generalize m'.nodes.map nodeV=p0 at *
  generalize m'.inits.map andV=p1 at *
  generalize m'.nexts.map andV=p2 at *
  generalize m'.bads.map I=p3 at *
  generalize m'.holds.map I=p4 at *
  generalize ((j+1:Nat):Int)=T at *
  simp only[q58,degr,isC_sl,jh9,e1,hD,jg4]
  simp[hg,hC,hl2',h2,hk13',show Nat.ble 1 2=true from rfl,show Nat.ble 2 2=true from rfl]
end
end Go.Lw
end

/-! Models out of texts: the document's ParseModel answers as the program's Parse. -/
section
namespace Go.Lw
open Go
theorem jk1:∀l:List (List UInt8),numsK l=if (l.all fun x=>decide (0≤undK x))=true then some (l.map undK) else none
 |[]=>rfl
 | x::l=>by
  rw[numsK,jk1 l,List.all_cons,List.map_cons]
  by_cases h:0≤undK x
  ·rw[if_pos h,decide_eq_true h,Bool.true_and]
   split<;>rfl
  ·rw[if_neg h,decide_eq_false h,Bool.false_and]
   rfl
theorem jtd {m:Md} {r:Int} {x w:List UInt8} {rest:List (List UInt8)} (h0:0≤r) (hs:splitK 32 x=w::rest):lineR m r w rest=lineK m r x:=by
 unfold lineK
 rw[hs]
 simp only
 by_cases h1:sortOf w<1
 ·rw [if_pos h1]
  have ht:thisK w=0:=by unfold thisK;rw[if_pos h1]
  unfold lineR
  rw[ht]
  match rest with
  |[]=>
   have hf:fineK m w (kdOf []) 0 []=false:=by unfold fineK kdOf;simp
   rw[if_neg (by rw[hf];simp)]
   rfl
  | u::tl=>
   have hnw:numW w (u::tl)=tl:=by unfold numW;rw[if_pos h1];rfl
   rw[jid,jk1,hnw]
   have hf:fineK m w (kdOf (u::tl)) 0 (u::tl)=((tl.all fun x=>decide (0≤undK x))&&(decide (undK w=(m.nodes.length:Int))&&decide (0<kindOf u))):=by
    unfold fineK;rw[if_pos rfl,hnw];rfl
   rw[hf]
   have hkr:=jmz u
   have hwt:wantT 0 (kdOf (u::tl))=wantK (kindOf u):=by unfold wantT;rw[if_pos rfl];rfl
   have hnm:newM m 0 (kdOf (u::tl)) (tl.map undK)=addN m (mkNd (kindOf u) (tl.map undK)):=by unfold newM;rw[if_pos rfl];rfl
   rw[hwt,hnm]
   generalize (tl.all fun x=>decide (0≤undK x))=f
   generalize tl.map undK=v
   by_cases c1:undK w=(m.nodes.length:Int)∧r≤0∧kindOf u≠0
   ·rw[if_pos c1]
    obtain⟨a,b,c⟩:=c1
    have hr0:r=0:=by omega
    subst hr0
    rw[decide_eq_true a,decide_eq_true (by omega:0<kindOf u)]
    cases f
    ·simp
    ·by_cases hv:(v.length:Int)=wantK (kindOf u)
     ·simp[hv]
     ·simp[hv]
   ·rw[if_neg c1,if_neg]
    ·rfl
    ·rintro⟨p1,p2,p3⟩
     simp only[Bool.and_eq_true,decide_eq_true_eq] at p1
     exact c1 ⟨p1.2.1,p3,by omega⟩
 ·rw[if_neg h1]
  have ht:thisK w=sortOf w:=by unfold thisK;rw[if_neg h1]
  have hnw:numW w rest=rest:=by unfold numW;rw[if_neg h1]
  unfold lineR
  rw[ht,hnw,jk1]
  have hs0:sortOf w≠0:=by omega
  have hf:fineK m w (kdOf rest) (sortOf w) rest=(rest.all fun x=>decide (0≤undK x)):=by unfold fineK;rw[if_neg hs0,hnw]
  have hwt:wantT (sortOf w) (kdOf rest)=manyOf (sortOf w):=by unfold wantT;rw[if_neg hs0]
  have hnm:newM m (sortOf w) (kdOf rest) (rest.map undK)=addS m (sortOf w) (rest.map undK):=by unfold newM;rw[if_neg hs0]
  rw[hf,hwt,hnm]
  generalize (rest.all fun x=>decide (0≤undK x))=f
  cases f
  ·simp
  ·simp
theorem jte {m m':Md} {r r':Int} {x:List UInt8} (h0:0≤r) (h:lineK m r x=some (m',r')):0≤r':=by
 unfold lineK at h
 split at h
 ·cases h
 ·split at h
  ·simp only[Option.map_eq_some_iff,Prod.mk.injEq] at h
   obtain⟨_,_,_,rfl⟩:=h;exact h0
  ·split at h
   ·split at h
    ·simp only[Option.some.injEq,Prod.mk.injEq] at h
     omega
    ·cases h
   ·cases h
section
variable {gh:List GObj}
theorem pm_l1 {ls:List (List UInt8)} {last:List UInt8} (hls:ls.length≤10001) (hlast:ls[ls.length-1]?=some last) (hsz:∀x∈ls,x.length≤80000):∀k j (m:Md) (r:Int) (N:Nat),j+k+1=ls.length→0≤r→MdZ m N→N+k≤20000→
  (∃e:Nat,pgo (ls.drop j) m r (j+1)= .inl e∧runL pg q4c ⟨e5 (SL8 ls) r (j:Nat),[nilM,mR m],gh⟩=some (.ret,⟨[(2,.ptr false 0 0),(3,I (e:Int)),(4,I 1)],[nilM],gh⟩))∨
  (∃m':Md,pgo (ls.drop j) m r (j+1)=(if last=[] then .inr m' else .inl ls.length)∧MdZ m' (N+k)∧runL pg q4c ⟨e5 (SL8 ls) r (j:Nat),[nilM,mR m],gh⟩=some (.normal,⟨[(2,.ptr false 0 0),(5,.sl false 1 (SL8 ls)),(6,.ptr false 1 0)],[nilM,mR m'],gh⟩))
 | 0,j,m,r,N,h,h0,hz,hN=>by
  right
  have hd:ls.drop j=[last]:=by
   have hlt:j<ls.length:=by omega
   rw[List.drop_eq_getElem_cons hlt,List.drop_eq_nil_of_le (by omega)]
   have:ls[j]?=some last:=by rw[←hlast];congr;omega
   rw[List.getElem?_eq_getElem hlt] at this
   rw[Option.some.inj this]
  refine⟨m,?_,hz,?_⟩
  ·rw[hd,jif,show j+1=ls.length by omega]
  ·have hll:(SL8 ls).length=ls.length:=List.length_map _
   have e1:IntKind.i64.wrap (((SL8 ls).length:Int)-1)=((ls.length-1:Nat):Int):=by rw[hll,jfp (by omega) (by omega)];omega
   have hD:decide ((j:Int)<((ls.length-1:Nat):Int))=false:=decide_eq_false (by omega)
   generalize SL8 ls=W at *
   refine (jfr (s1:=⟨[(2,.ptr false 0 0),(5,.sl false 1 W),(6,.ptr false 1 0),(7,I r),(8,I (j:Nat)),(29,B false)],[nilM,mR m],gh⟩) (q58_ ?h1)).trans ?r1
   case h1=>
    simp only[q58,degr,isC_sl,jh9,e1,hD,jg3]
    simp
   case r1=>simp[keep,stays]
 | k+1,j,m,r,N,h,h0,hz,hN=>by
  have hlt:j<ls.length:=by omega
  have hx:ls[j]?=some ls[j]:=List.getElem?_eq_getElem hlt
  have hxl:=hsz _ (List.getElem_mem hlt)
  obtain⟨w,rest,hws⟩:=jms 32 ls[j]
  have hb:=pm_b1 (gh:=gh) (m:=m) (r:=r) (ls:=ls) (j:=j) (x:=ls[j]) (w:=w) (rest:=rest) (jhe hz (by omega)) (by omega) (by omega) hx hxl hws
  rw[jtd h0 hws] at hb
  have hd:ls.drop j=ls[j]::ls.drop (j+1):=List.drop_eq_getElem_cons hlt
  have hlt2:j+1<ls.length:=by omega
  have hd2:ls.drop (j+1)=ls[j+1]::ls.drop (j+2):=List.drop_eq_getElem_cons hlt2
  have hp:pgo (ls.drop j) m r (j+1)=(match lineK m r ls[j] with|none=> .inl (j+1)|some (m',r')=>pgo (ls.drop (j+1)) m' r' (j+1+1)):=by
   rw[hd,hd2,jjv]
   all_goals (cases lineK m r ls[j]<;>rfl)
  rw[hp]
  cases hk:lineK m r ls[j] with
  |none=>
   rw[hk] at hb
   left
   refine⟨j+1,rfl,?_⟩
   exact lp_ret hb
  | some p=>
   obtain⟨m',r'⟩:=p
   rw[hk] at hb
   simp only at hb ⊢
   rcases pm_l1 hls hlast hsz k (j+1) m' r' (N+1) (by omega) (jte h0 hk) (jjw hz hk) (by omega) with ⟨e,p1,p2⟩|⟨m2,p1,p2,p3⟩
   ·left
    exact⟨e,p1,jfn hb p2⟩
   ·right
    exact⟨m2,p1,jhe p2 (by omega),jfn hb p3⟩
theorem jtf {s:List UInt8} (hs:s.length≤2000000):callL pg 370 [.str (bA s)] gh=some (.tup [modelV (parseE s).1,I (parseE s).2.1,I (parseE s).2.2],gh):=by
 have hz:((bA s).size:Nat)=s.length:=jg8 s
 unfold parseE
 by_cases h1:10000<s.length
 ·rw[if_pos h1]
  refine jfm (fn:=qm) (s:=⟨[(2,.ptr false 0 0),(3,I 0),(4,I 2)],[nilM],gh⟩) rfl rfl (q2d_ ?h1) ?r1
  case h1=>simp[q2d,hz,show (10000:Int)<(s.length:Int) by omega]
  case r1=>simp[finish,results,qm,resOfs,resOf,St.cellsAt,resOk,modelV,m0]
 ·rw [if_neg h1]
  have hn1:¬(10000:Int)<(s.length:Int):=by omega
  have hsl:=jgr 10 s
  have hsz:=jjg 10 s
  have hC:=fun G=>jly (gh:=G) (s:=s) (c:=10) (by omega)
  have h10:((10:UInt8).toNat:Int)=10:=rfl
  simp only[h10] at hC
  generalize splitK 10 s=ls at *
  have hln:ls.length-1<ls.length:=by omega
  have hlast:ls[ls.length-1]?=some ls[ls.length-1]:=List.getElem?_eq_getElem hln
  have hl:=pm_l1 (gh:=gh) (ls:=ls) (last:=ls[ls.length-1]) (by omega) hlast (fun x hx=>by have:=hsz x hx;omega) (ls.length-1) 0 m0 0 0 (by omega) (by omega) (MdZ_m0 0) (by omega)
  rw[List.drop_zero,Nat.zero_add] at hl
  have hm0:mR m0=nilM:=rfl
  rw[hm0] at hl
  have hg:(SL8 ls)[ls.length-1]?=some (.str (bA ls[ls.length-1])):=by rw[List.getElem?_map,hlast];rfl
  generalize ls[ls.length-1]=last at *
  have hll:(SL8 ls).length=ls.length:=List.length_map _
  have e1:IntKind.i64.wrap (((SL8 ls).length:Int)-1)=((ls.length-1:Nat):Int):=by rw[hll,jfp (by omega) (by omega)];omega
  have h0n:(0:Int)≤((ls.length-1:Nat):Int):=by omega
  have htn:(((ls.length-1:Nat):Int)).toNat=ls.length-1:=Int.toNat_natCast _
  have eE:ByteArray.empty=bA []:=rfl
  generalize SL8 ls=W at *
  simp only[Int.natCast_zero] at hl
  rcases hl with ⟨e,p1,p2⟩|⟨m,p1,p2,p3⟩
  ·rw[p1]
   refine jfm (fn:=qm) (s:=⟨[(2,.ptr false 0 0),(3,I (e:Int)),(4,I 1)],[nilM],gh⟩) rfl rfl (q2d_ ?h2) ?r2
   case h2=>simp[q2d,hz,hn1,hC,p2]
   case r2=>simp[finish,results,qm,resOfs,resOf,St.cellsAt,resOk,modelV,m0]
  ·rw [p1]
   have hCk:=jtc (m:=m) (gh:=gh) (by simp only[Sz];have:=p2.inits;omega) (by simp only[Sz];have:=p2.nexts;omega)
   have w0:=jn2 m.nodes
   have w1:=jig m.inits
   have w2:=jig m.nexts
   have w3:=jhq m.bads
   have w4:=jhq m.holds
   rw[jg6] at hCk
   simp only[LN,LP,LI] at hCk
   by_cases hl0:last=[]
   ·rw[if_pos hl0]
    subst hl0
    simp only
    by_cases hc:checkE m=0
    ·rw[if_pos hc]
     rw[hc] at hCk
     rw[jg6]
     simp only[LN,LP,LI]
     unfold mR at p3
     generalize m.nodes.map nodeV=q0 at *
     generalize m.inits.map andV=q1 at *
     generalize m.nexts.map andV=q2 at *
     generalize m.bads.map I=q3 at *
     generalize m.holds.map I=q4 at *
     have hk:runL pg q22 ⟨[(2,.ptr false 0 0),(5,.sl false 1 W),(6,.ptr false 1 0)],[nilM,[.sl true 6 q0,.sl true 2 q1,.sl true 2 q2,.sl true 1 q3,.sl true 1 q4]],gh⟩=some (.ret,⟨[(2,.ptr false 0 0),(3,I 0),(4,I 0)],[[.sl false 6 q0,.sl false 2 q1,.sl false 2 q2,.sl false 1 q3,.sl false 1 q4]],gh⟩):=by
      refine q59_ ?_
      simp only[q59,eE]
      simp[e1,h0n,htn,hg,hCk,degr1]
     refine jfm (fn:=qm) (s:=⟨[(2,.ptr false 0 0),(3,I 0),(4,I 0)],[[.sl false 6 q0,.sl false 2 q1,.sl false 2 q2,.sl false 1 q3,.sl false 1 q4]],gh⟩) rfl rfl (q2d_ ?h3) ?r3
     case h3=>simp[q2d,hz,hn1,hC,p3,hk]
     case r3=>simp[finish,results,qm,resOfs,resOf,St.cellsAt,resOk,w0,w1,w2,w3,w4]
    ·rw[if_neg hc]
     unfold mR at p3
     generalize checkE m=e at *
     generalize m.nodes.map nodeV=q0 at *
     generalize m.inits.map andV=q1 at *
     generalize m.nexts.map andV=q2 at *
     generalize m.bads.map I=q3 at *
     generalize m.holds.map I=q4 at *
     have hk:runL pg q22 ⟨[(2,.ptr false 0 0),(5,.sl false 1 W),(6,.ptr false 1 0)],[nilM,[.sl true 6 q0,.sl true 2 q1,.sl true 2 q2,.sl true 1 q3,.sl true 1 q4]],gh⟩=some (.ret,⟨[(2,.ptr false 0 0),(3,I 0),(4,I e)],[nilM],gh⟩):=by
      refine q59_ ?_
      simp only[q59,eE]
      simp[e1,h0n,htn,hg,hCk,hc,degr1]
     refine jfm (fn:=qm) (s:=⟨[(2,.ptr false 0 0),(3,I 0),(4,I e)],[nilM],gh⟩) rfl rfl (q2d_ ?h4) ?r4
     case h4=>simp[q2d,hz,hn1,hC,p3,hk]
     case r4=>simp[finish,results,qm,resOfs,resOf,St.cellsAt,resOk,modelV,m0]
   ·rw[if_neg hl0]
    simp only
    have hie:last.isEmpty=false:=by cases last with
     |nil=>exact absurd rfl hl0
     |cons a b=>rfl
    unfold mR at p3
    generalize m.nodes.map nodeV=q0 at *
    generalize m.inits.map andV=q1 at *
    generalize m.nexts.map andV=q2 at *
    generalize m.bads.map I=q3 at *
    generalize m.holds.map I=q4 at *
    have hk:runL pg q22 ⟨[(2,.ptr false 0 0),(5,.sl false 1 W),(6,.ptr false 1 0)],[nilM,[.sl true 6 q0,.sl true 2 q1,.sl true 2 q2,.sl true 1 q3,.sl true 1 q4]],gh⟩=some (.ret,⟨[(2,.ptr false 0 0),(3,I (ls.length:Int)),(4,I 1)],[nilM],gh⟩):=by
     refine q59_ ?_
     rw[hll] at e1
     simp only[q59,eE]
     simp[e1,htn,hg,hie,hll]
    refine jfm (fn:=qm) (s:=⟨[(2,.ptr false 0 0),(3,I (ls.length:Int)),(4,I 1)],[nilM],gh⟩) rfl rfl (q2d_ ?h5) ?r5
    case h5=>simp[q2d,hz,hn1,hC,p3,hk]
    case r5=>simp[finish,results,qm,resOfs,resOf,St.cellsAt,resOk,modelV,m0]
end
end Go.Lw
end
