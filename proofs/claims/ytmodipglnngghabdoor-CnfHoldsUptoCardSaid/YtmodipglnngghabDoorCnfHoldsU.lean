/-
  CnfHolds: the given statement holds: the call answers true, and what it was handed reads as it did.
-/
import Derived.Test.YtmodipglnngghabDoorCnfHoldsT
import Derived.Test.YtmodipglnngghabDoorRows
import Derived.Test.YtmodipglnngghabDoorTie
import Derived.Test.YtmodipglnngghabDoorCards
import Derived.KernelRfl
import Derived.Deep.DeepHandedRow
import Derived.Deep.DeepWitnessRowRef
import Derived.Deep.DeepLaidRun
import Derived.LaidMore
import Derived.RegionCalls
import Derived.Deep.RegionWith
import Derived.Laws.BytesString
import Derived.JoinedCond
import Derived.Deep.CondSized
import Derived.WalkKit
import Derived.ProofKit
import Derived.OpenShut
import Derived.ShutString
import Derived.ChangeOld
import Derived.Below
set_option linter.unusedVariables false
set_option linter.unusedSimpArgs false
set_option linter.unnecessarySimpa false

/-! CnfHolds: the given statement holds: the call answers true, and what it was handed reads as it did. -/
section
namespace Go.Proofs.YtmodipglnngghabDoor.cnfHoldsDone
open Go Go.Lw Go.ChangeShapes Go.WideShapes Go.RowKit
set_option maxRecDepth 100000

def laysItoa_ren:Go.Shelf.Ren:=⟨fun|171=>13|243=>26|246=>36|283=>41|284=>42|285=>43|286=>44|129=>46|317=>45|318=>47|319=>48|320=>49|337=>50|338=>51|n=>n,fun|3=>3|9=>9|2=>2|4=>4|171=>77|0=>0|53=>78|37=>36|5=>5|173=>81|212=>84|51=>85|20=>20|213=>86|46=>87|232=>90|233=>91|n=>n,fun|17=>0|18=>1|19=>2|n=>n⟩
theorem laysItoa:Go.Proofs.LaysM.n171 Tryd.prog laysItoa_ren:={
 mixed:=by kernel_rfl
 f129:=Tryd.func46.trans (congrArg some (by kernel_rfl))
 f171:=Tryd.func13.trans (congrArg some (by kernel_rfl))
 f243:=Tryd.func26.trans (congrArg some (by kernel_rfl))
 f246:=Tryd.func36.trans (congrArg some (by kernel_rfl))
 f283:=Tryd.func41.trans (congrArg some (by kernel_rfl))
 f284:=Tryd.func42.trans (congrArg some (by kernel_rfl))
 f285:=Tryd.func43.trans (congrArg some (by kernel_rfl))
 f286:=Tryd.func44.trans (congrArg some (by kernel_rfl))
 f317:=Tryd.func45.trans (congrArg some (by kernel_rfl))
 f318:=Tryd.func47.trans (congrArg some (by kernel_rfl))
 f319:=Tryd.func48.trans (congrArg some (by kernel_rfl))
 f320:=Tryd.func49.trans (congrArg some (by kernel_rfl))
 f337:=Tryd.func50.trans (congrArg some (by kernel_rfl))
 f338:=Tryd.func51.trans (congrArg some (by kernel_rfl))
 t0:=Tryd.underlying0
 a0:=Tryd.isAgg0
 z0:=Tryd.sizeOf0
 v0:=Tryd.zeroValue0
 t2:=Tryd.underlying2
 a2:=Tryd.isAgg2
 z2:=Tryd.sizeOf2
 v2:=Tryd.zeroValue2
 t3:=Tryd.underlying3
 a3:=Tryd.isAgg3
 z3:=Tryd.sizeOf3
 v3:=Tryd.zeroValue3
 t4:=Tryd.underlying4
 a4:=Tryd.isAgg4
 z4:=Tryd.sizeOf4
 v4:=Tryd.zeroValue4
 t5:=Tryd.underlying5
 a5:=Tryd.isAgg5
 z5:=Tryd.sizeOf5
 v5:=Tryd.zeroValue5
 t9:=Tryd.underlying9
 a9:=Tryd.isAgg9
 z9:=Tryd.sizeOf9
 v9:=Tryd.zeroValue9
 t20:=Tryd.underlying20
 a20:=Tryd.isAgg20
 z20:=Tryd.sizeOf20
 v20:=Tryd.zeroValue20
 t37:=Tryd.underlying36
 a37:=Tryd.isAgg36
 z37:=Tryd.sizeOf36
 v37:=Tryd.zeroValue36
 t46:=Tryd.underlying87
 a46:=Tryd.isAgg87
 z46:=Tryd.sizeOf87
 v46:=Tryd.zeroValue87
 t51:=Tryd.underlying85
 a51:=Tryd.isAgg85
 z51:=Tryd.sizeOf85
 v51:=Tryd.zeroValue85
 t53:=Tryd.underlying78
 a53:=Tryd.isAgg78
 z53:=Tryd.sizeOf78
 v53:=Tryd.zeroValue78
 t171:=Tryd.underlying77
 a171:=Tryd.isAgg77
 z171:=Tryd.sizeOf77
 v171:=Tryd.zeroValue77
 t173:=Tryd.underlying81
 a173:=Tryd.isAgg81
 z173:=Tryd.sizeOf81
 v173:=Tryd.zeroValue81
 t212:=Tryd.underlying84
 a212:=Tryd.isAgg84
 z212:=Tryd.sizeOf84
 v212:=Tryd.zeroValue84
 t213:=Tryd.underlying86
 a213:=Tryd.isAgg86
 z213:=Tryd.sizeOf86
 t232:=Tryd.underlying90
 a232:=Tryd.isAgg90
 z232:=Tryd.sizeOf90
 v232:=Tryd.zeroValue90
 t233:=Tryd.underlying91
 a233:=Tryd.isAgg91
 z233:=Tryd.sizeOf91
 v233:=Tryd.zeroValue91
 g17:=by kernel_rfl
 g18:=by kernel_rfl
 g19:=by kernel_rfl
 i0:=by kernel_rfl
 i2:=by kernel_rfl
 i3:=by kernel_rfl
 i4:=by kernel_rfl
 i5:=by kernel_rfl
 i9:=by kernel_rfl
 i20:=by kernel_rfl
 i37:=by kernel_rfl
 i46:=by kernel_rfl
 i51:=by kernel_rfl
 i53:=by kernel_rfl
 i171:=by kernel_rfl
 i173:=by kernel_rfl
 i212:=by kernel_rfl
 i232:=by kernel_rfl
 i233:=by kernel_rfl
 m17:=by kernel_rfl
 m18:=by kernel_rfl
 m19:=by kernel_rfl }

/-- The machine's number of a function, and the program's. -/
def links:List (Nat×Nat):=[(6,27),(16,18),(18,9),(32,4),(47,28),(50,15),(53,29),(54,30),(55,31),(59,10),(70,11),(85,37),(86,24),(88,38),(90,39),(91,40),(93,6),(94,19),(98,20),(99,23),(100,22),(111,34),(112,16),(113,32),(116,21),(117,33),(168,8),(260,13),(357,12),(359,14),(363,17),(383,3),(384,5),(385,7)]

/-! strings.Builder: what its code does at this program. -/
/-- The types in whose blocks a builder may lie. -/
def bldTs:List TypeId:=[38]
theorem bldLies:∀T∈bldTs,liesAt Tryd.prog Tryd.prog.depth T (2/Tryd.prog.cellsOf T) 0 38 1=true:=by
 intro T hT
 simp only[bldTs,List.mem_cons,List.not_mem_nil,or_false] at hT
 subst hT;decide +kernel
theorem bldNe:∀T∈bldTs,T≠5:=by decide
theorem bldSize:(Tryd.prog.info? 38).map (·.size)=some 2:=by kernel_rfl
theorem bldByte:(Tryd.prog.info? 5).map (fun i=>(i.zero,i.size,i.bytes))=some (some (.int .u8 0),1,1):=by kernel_rfl

set_option maxHeartbeats 1000000 in
set_option maxRecDepth 100000 in
theorem check_used (b:Nat) (w:World) (h0:w.cell? ⟨b,0,none⟩=some (.pointer (some ⟨b,0,none⟩))):Calls Tryd.prog 25 #[.pointer (some ⟨b,0,none⟩)] w fun e w'=>e= .returned (.tuple #[])∧w'=w:=by
 obtain⟨j,hj,_⟩:=Option.map_eq_some_iff.1 bldSize
 go_enter Tryd.func25,Tryd.ntmps25
 go_wp2
 rw[Lib.run_neq_ptr_same w _ Tryd.underlying35 hj]
 go_wp2
 go_end0
 exact⟨rfl,rfl⟩

set_option maxHeartbeats 1000000 in
set_option maxRecDepth 100000 in
theorem check_new {T:TypeId} (hT:T∈bldTs) (b:Nat) (w:World) (h0:w.cell? ⟨b,0,none⟩=some (.pointer none)) (hsh:w.shape? b=some (T,2)) (hfz:w.frozen? ⟨b,0,none⟩=false) :
  Calls Tryd.prog 25 #[.pointer (some ⟨b,0,none⟩)] w fun e w'=>e= .returned (.tuple #[])∧w'=w.setCell ⟨b,0,none⟩ (.pointer (some ⟨b,0,none⟩)):=by
 obtain⟨j,hj,hjs⟩:=Option.map_eq_some_iff.1 bldSize
 go_enter Tryd.func25,Tryd.ntmps25
 go_wp2
 rw[Lib.run_to_unsafe w ⟨b,0,none⟩ Tryd.underlying35 Tryd.underlying70 hj (by rw[hjs];decide) hsh (Nat.zero_lt_succ 1)]
 simp only[Result.andThen]
 rw[Oper.upon_value]
 go_wp2
 rw[run_callFunc_extern Tryd.func35 (by kernel_rfl) (by kernel_rfl) (by kernel_rfl) (e:=Extern.AbiNoEscape.same) (by kernel_rfl)]
 rw[Lib.run_noEscape]
 simp only[Result.andThen]
 rw[Oper.upon_value]
 go_wp2
 rw[Lib.run_from_unsafe w ⟨b,0,none⟩ Tryd.underlying70 Tryd.underlying35 hj hsh (bldLies T hT)]
 simp only[Result.andThen]
 rw[Oper.upon_value]
 go_wp2
 go_end0
 exact⟨rfl,rfl⟩

theorem check_any {T:TypeId} (hT:T∈bldTs) {b:Nat} {p v:Value} {w:World} (hb:w.heap[b]?=some (.cells #[p,v] T (0,0))) (hp:p= .pointer none∨p= .pointer (some ⟨b,0,none⟩)) :
  Calls Tryd.prog 25 #[.pointer (some ⟨b,0,none⟩)] w fun e w'=>e= .returned (.tuple #[])∧w'.heap[b]?=some (.cells #[.pointer (some ⟨b,0,none⟩),v] T (0,0))∧Go.Lw.Rest w w' b none∧w'.heap.size≤w.heap.size∧w.heap.size≤w'.heap.size:=by
 rcases hp with rfl|rfl
 ·refine (check_new hT b w (by simp[World.cell?,hb]) (by simp[World.shape?,hb]) (by simp[World.frozen?,hb])).mono ?_
  rintro e w' ⟨rfl,rfl⟩
  refine⟨rfl,by simp[World.setCell,Array.getElem?_modify,hb],⟨rfl,rfl,rfl,by simp[World.setCell],fun k _ hk _=>j9u hk⟩,by simp[World.setCell],by simp[World.setCell]⟩
 ·refine (check_used b w (by simp[World.cell?,hb])).mono ?_
  rintro e w' ⟨rfl,rfl⟩
  exact⟨rfl,hb,⟨rfl,rfl,rfl,Nat.le_refl _,fun _ _ _ _=>rfl⟩,Nat.le_refl _,Nat.le_refl _⟩

set_option maxHeartbeats 2000000 in
set_option maxRecDepth 100000 in
theorem write_ok:WriteOk Tryd.prog 12 5 bldTs:=by
 intro T hT b n p v xs s w hbat hs0 hlen
 obtain⟨hb,hp,hown⟩:=hbat
 have hne:v.ownBlock≠some b:=Lib.ownBlock_ne hown hb (bldNe T hT)
 obtain⟨i0,hi,hz0,hz1,hz2⟩:=info_parts bldByte
 go_enter Tryd.func12,Tryd.ntmps12
 go_wp2_with (go_at_call 25;refine (check_any hT hb hp).mono ?_)
 rintro e w1 ⟨rfl,hb1,r1,s1⟩
 have hown1:w1.ownsRow 0 5 1 v n xs:=by
  rcases hown.2 with ⟨rfl,h0⟩|⟨g,cap,cur,rfl,h0,hg,hr⟩
  ·exact⟨hown.1,.inl ⟨rfl,h0⟩⟩
  ·exact⟨hown.1,.inr ⟨g,cap,cur,rfl,h0,(r1.block g (j8u hg) (fun e=>hne (by simp[Value.ownBlock,e])) (by simp)).trans hg,hr⟩⟩
 have c0:w1.cell? ⟨b,0,none⟩=some (.pointer (some ⟨b,0,none⟩)):=by rw[Lib.cell_of_heap hb1];rfl
 have c1:w1.cell? ⟨b,1,none⟩=some v:=by rw[Lib.cell_of_heap hb1];rfl
 go_wp2_with (at_builtin;refine jh6 rfl _ _ 36 9 rfl Tryd.underlying36 Tryd.underlying9 hi hz0 hz1 hz2 _ _ _ rfl hown1 s rfl hs0 hlen ?_)
 intro v' w2 hown' hgrow hv'
 have hlt:b<w1.heap.size:=j8u hb1
 have hb2:w2.heap[b]?=some (.cells #[.pointer (some ⟨b,0,none⟩),v] T (0,0)):=by
  rw[hgrow.block b hlt (fun e=>hne e.symm)]
  exact hb1
 have d0:w2.cell? ⟨b,0,none⟩=some (.pointer (some ⟨b,0,none⟩)):=by rw[Lib.cell_of_heap hb2];rfl
 have d1:w2.cell? ⟨b,1,none⟩=some v:=by rw[Lib.cell_of_heap hb2];rfl
 have f1:w2.frozen? ⟨b,1,none⟩=false:=Lib.frozen_of_heap hb2 1
 have hne':v'.ownBlock≠some b:=Lib.ownBlock_ne hown' hb2 (bldNe T hT)
 have hv2:v'.ownBlock=v.ownBlock∨∃g,v'.ownBlock=some g∧w.heap.size≤g:=by
  rcases hv' with h|h
  ·exact .inl h
  ·exact .inr ⟨_,h,s1.2⟩
 clear hv'
 obtain⟨ao,n',cap,rfl⟩:∃ao n' cap,v'= .slice ao n' cap:=by
  rcases hown'.2 with ⟨hv,_⟩|⟨g,cap,cur,hv,_⟩
  ·exact⟨_,_,_,hv⟩
  ·exact⟨_,_,_,hv⟩
 go_wp2
 go_ret2
 refine⟨rfl,.slice ao n' cap,?_,?_,hv2,⟨?_,?_,?_,?_,?_⟩⟩
 ·simp[World.setCell,Array.getElem?_modify,hb2]
 ·rcases hown'.2 with ⟨hv,h0⟩|⟨g,cap',cur,hv,h0,hg,hr⟩
  ·exact⟨hown'.1,.inl ⟨hv,h0⟩⟩
  ·refine⟨hown'.1,.inr ⟨g,cap',cur,hv,h0,?_,hr⟩⟩
   rw[j9u (fun e=>hne' (by rw[hv];simp[Value.ownBlock,e]))]
   exact hg
 ·exact hgrow.os.trans r1.os
 ·exact hgrow.tape.trans r1.tape
 ·exact hgrow.output.trans r1.output
 ·have:=hgrow.size;have:=r1.size;simp[World.setCell];omega
 ·intro k hk hkb hko
  rw[j9u hkb,hgrow.block k (by have:=r1.size;omega) hko]
  exact r1.block k hk hkb (by simp)

set_option maxHeartbeats 2000000 in
set_option maxRecDepth 100000 in
theorem read_ok:ReadOk Tryd.prog 14 5:=by
 constructor
 ·intro T b p w hb
  have hUS:∀W q,(Builtin.unsafeString_ #[59,3] 9 #[.pointer q,.int .i64 0]).run Tryd.prog W= .ok (.string .empty) W:=fun W q=>Lib.run_unsafeString_none W _ _ _ q
  have c1:w.drew.cell? ⟨b,1,none⟩=some (.slice none 0 0):=by
   have:w.drew.heap[b]?=some (.cells #[p,.slice none 0 0] T (0,0)):=hb
   rw[Lib.cell_of_heap this];rfl
  have hSD:(Builtin.unsafeSliceData_ #[36] 59 #[.slice none 0 0]).run Tryd.prog w.drew= .ok (.pointer none) w.drew:=rfl
  go_enter Tryd.func14,Tryd.ntmps14
  go_wp2
  go_region
  all_goals (go_wp2;go_ret;exact⟨rfl,rfl⟩)
 ·intro T b g cap p l cur w hb hg h0 hnc hcm hcs hcell
  have hl0:l.length≠0:=by simpa using h0
  have c1:w.drew.cell? ⟨b,1,none⟩=some (.slice (some ⟨g,0,none⟩) l.length cap):=by
   have:w.drew.heap[b]?=some (.cells #[p,.slice (some ⟨g,0,none⟩) l.length cap] T (0,0)):=hb
   rw[Lib.cell_of_heap this];rfl
  have hSD:(Builtin.unsafeSliceData_ #[36] 59 #[.slice (some ⟨g,0,none⟩) l.length cap]).run Tryd.prog w.drew= .ok (.pointer (some ⟨g,0,none⟩)) w.drew:=
   Lib.run_unsafeSliceData_row _ _ _ _ _ _ (by omega)
  have hUS:(Builtin.unsafeString_ #[59,3] 9 #[.pointer (some ⟨g,0,none⟩),.int .i64 l.length]).run Tryd.prog w.drew= .ok (.string ⟨l.toArray⟩) (w.drew.freeze ⟨g,0,none⟩ l.length):=
   Lib.run_unsafeString_row w.drew 59 3 9 5 Tryd.underlying59 (by kernel_rfl) g cur.size (by have hg':w.drew.heap[g]?=some (.cells cur 5 (0,0)):=hg;simp[World.shape?,hg']) l h0 (by omega) (by unfold maxLen at hcm;omega) hcell
  go_enter Tryd.func14,Tryd.ntmps14
  go_wp2
  go_region
  all_goals (go_wp2;go_ret;exact⟨rfl,rfl⟩)

def Grw (w w':World):Prop:=w'.os=w.os∧w'.tape=w.tape∧w'.output=w.output∧w.heap.size≤w'.heap.size∧∀k,k<w.heap.size→w'.heap[k]?=w.heap[k]?

theorem Grw.refl (w:World):Grw w w:=⟨rfl,rfl,rfl,Nat.le_refl _,fun _ _=>rfl⟩
theorem Grw.trans {a b c:World} (h:Grw a b) (g:Grw b c):Grw a c:=
 ⟨g.1.trans h.1,g.2.1.trans h.2.1,g.2.2.1.trans h.2.2.1,Nat.le_trans h.2.2.2.1 g.2.2.2.1,fun k hk=>(g.2.2.2.2 k (Nat.lt_of_lt_of_le hk h.2.2.2.1)).trans (h.2.2.2.2 k hk)⟩
theorem Grw.drew {a b:World} (h:Grw a b):Grw a b.drew:=h
theorem Grw.drewN {a b:World} (h:Grw a b) (n:Nat):Grw a (b.drewN n):=h
theorem Grw.alloc {a b:World} (h:Grw a b) (o:Obj):Grw a (b.alloc o):=
 ⟨h.1,h.2.1,h.2.2.1,Nat.le_trans h.2.2.2.1 (by show b.heap.size≤(b.heap.push _).size;simp),fun k hk=>by
  show (b.heap.push _)[k]?=_
  rw[Array.getElem?_push,if_neg (by have:=h.2.2.2.1;omega)];exact h.2.2.2.2 k hk⟩

theorem decD_size (u:Nat) (h:u<10^20):(bA (Lib.decDigits u)).size≤100:=by
 have e:(bA (Lib.decDigits u)).size=(Lib.decDigits u).length:=by simp[ByteArray.size]
 have:∀(k u:Nat),(digK k u).length≤k:=by
  intro k
  induction k with
  |zero=>intro u;exact Nat.le_refl _
  | succ k ih=>
   intro u
   rw[digK]
   split
   ·simp
   ·have:=ih (u/10)
    simp;omega
 have h2:=this 20 u
 rw[j8t 20 u h (by decide)] at h2
 omega

theorem alloc_cell0 (w:World) (v:Value) (t:TypeId):(w.alloc (.cells #[v] t)).cell? ⟨w.heap.size,0,none⟩=some v:=by
 have h:(w.alloc (.cells #[v] t)).heap[w.heap.size]?=some (.cells #[v] t):=by
  show (w.heap.push _)[w.heap.size]?=_
  simp
 simp only[World.cell?,h]
 rfl

set_option maxHeartbeats 1600000 in
set_option maxRecDepth 100000 in
theorem digits_one (n:Int) (w:World) (h0:0≤n) (h1:n<10):Calls Tryd.prog 17 #[.int .i64 n] w fun e w'=>e= .returned (.string (bA [UInt8.ofNat (48+n.toNat)]))∧Grw w w':=by
 have kc:=run_convert_bytes_arg (P:=Tryd.prog) (w.alloc (.cells #[.int .u8 (48+n)] 5)) 36 5 Tryd.underlying36 Tryd.underlying5 w.heap.size 0 1 1 [48+n] rfl (fun i hi=>by
  obtain rfl:i=0:=by omega
  exact alloc_cell0 w _ _) 9 Tryd.underlying9
 have es:strOfNums [48+n]=bA [UInt8.ofNat (48+n.toNat)]:=by
  have:(48+n).toNat=48+n.toNat:=by omega
  simp[strOfNums,this]
 rw[es] at kc
 obtain⟨S,hS⟩:∃S,bA [UInt8.ofNat (48+n.toNat)]=S:=⟨_,rfl⟩
 rw[hS] at kc ⊢
 clear hS es
 go_enter Tryd.func17,Tryd.ntmps17
 go_wp2_with fail
 go_ret
 exact⟨rfl,(Grw.refl w).alloc _⟩

set_option maxHeartbeats 1600000 in
set_option maxRecDepth 100000 in
theorem digits_nat (k:Nat):∀(n:Int) (w:World),0≤n→n.toNat<10^(k+1)→n≤9223372036854775807→Calls Tryd.prog 17 #[.int .i64 n] w fun e w'=>e= .returned (.string (bA (Lib.decDigits n.toNat)))∧Grw w w':=by
 induction k with
 |zero=>
  intro n w h0 h1 _
  have h1:n<10:=by omega
  refine (digits_one n w h0 h1).mono ?_
  rintro e w' ⟨rfl,g⟩
  refine⟨?_,g⟩
  rw[Lib.decDigits,dif_pos (by omega)]
 | succ k ih=>
  intro n w h0 h1 h2
  by_cases hn:n<10
  ·refine (digits_one n w h0 hn).mono ?_
   rintro e w' ⟨rfl,g⟩
   refine⟨?_,g⟩
   rw[Lib.decDigits,dif_pos (by omega)]
  ·have c1:=fun w=>ih (n/10) w (by omega) (by rw[Nat.pow_succ] at h1;omega) (by omega)
   have c2:=fun w=>digits_one (n%10) w (by omega) (by omega)
   have hd:Lib.decDigits n.toNat=Lib.decDigits (n/10).toNat++[UInt8.ofNat (48+(n%10).toNat)]:=by
    rw[Lib.decDigits,dif_neg (by omega)]
    congr 3<;>omega
   have e3:bA (Lib.decDigits n.toNat)=bA (Lib.decDigits (n/10).toNat)++bA [UInt8.ofNat (48+(n%10).toNat)]:=by
    rw[hd];apply ByteArray.ext;simp
   have l1:=decD_size (n/10).toNat (by omega)
   have l2:(bA [UInt8.ofNat (48+(n%10).toNat)]).size=1:=rfl
   rw[e3]
   clear ih hd e3
   generalize bA (Lib.decDigits (n/10).toNat)=S1 at *
   generalize bA [UInt8.ofNat (48+(n%10).toNat)]=S2 at *
   go_enter Tryd.func17,Tryd.ntmps17
   go_wp2_with (go_at_call 17;first|(with_reducible refine (c1 _).mono ?_;rintro e w1 ⟨rfl,g⟩)|(with_reducible refine (c2 _).mono ?_;rintro e w2 ⟨rfl,g2⟩))
   go_ret
   exact⟨rfl,g.trans g2⟩

set_option maxHeartbeats 1600000 in
set_option maxRecDepth 100000 in
theorem digits_neg1 (n:Int) (w:World) (h0:n<0) (h1: -10<n):Calls Tryd.prog 17 #[.int .i64 n] w fun e w'=>e= .returned (.string (bA (45::Lib.decDigits (-n).toNat)))∧Grw w w':=by
 have c1:=fun w=>digits_nat 0 (-n) w (by omega) (by omega) (by omega)
 have e3:bA (45::Lib.decDigits (-n).toNat)=⟨#[45]⟩++bA (Lib.decDigits (-n).toNat):=by
  apply ByteArray.ext;simp
 have l1:=decD_size (-n).toNat (by omega)
 rw[e3]
 clear e3
 generalize bA (Lib.decDigits (-n).toNat)=S1 at *
 go_enter Tryd.func17,Tryd.ntmps17
 go_wp2_with (go_at_call 17;(with_reducible refine (c1 _).mono ?_;rintro e w1 ⟨rfl,g⟩))
 go_ret
 exact⟨rfl,g⟩

set_option maxHeartbeats 1600000 in
set_option maxRecDepth 100000 in
theorem digits_neg2 (n:Int) (w:World) (h0:n≤ -10) (h1: -9223372036854775808≤n):Calls Tryd.prog 17 #[.int .i64 n] w fun e w'=>e= .returned (.string (bA (45::Lib.decDigits (-n).toNat)))∧Grw w w':=by
 have d1:n.tdiv 10= -((-n)/10):=by
  have a:(-n).tdiv 10=(-n)/10:=Int.tdiv_eq_ediv_of_nonneg (by omega)
  rw[←a,Int.neg_tdiv,Int.neg_neg]
 have d2:n.tmod 10= -((-n)%10):=by
  have a:(-n).tmod 10=(-n)%10:=Int.tmod_eq_emod_of_nonneg (by omega)
  rw[←a,Int.neg_tmod,Int.neg_neg]
 have e1:wrap64 (-n.tdiv 10)=(-n)/10:=by
  rw[d1,Int.neg_neg];unfold wrap64;omega
 have e2:wrap64 (-n.tmod 10)=(-n)%10:=by
  rw[d2,Int.neg_neg];unfold wrap64;omega
 have c1:∀w,Calls Tryd.prog 17 #[.int .i64 (wrap64 (-n.tdiv 10))] w fun e w'=>e= .returned (.string (bA (Lib.decDigits ((-n)/10).toNat)))∧Grw w w':=fun w=>by
  rw[e1];exact digits_nat 19 _ w (by omega) (by omega) (by omega)
 have c2:∀w,Calls Tryd.prog 17 #[.int .i64 (wrap64 (-n.tmod 10))] w fun e w'=>e= .returned (.string (bA [UInt8.ofNat (48+((-n)%10).toNat)]))∧Grw w w':=fun w=>by
  rw[e2];exact digits_one _ w (by omega) (by omega)
 have hd:Lib.decDigits (-n).toNat=Lib.decDigits ((-n)/10).toNat++[UInt8.ofNat (48+((-n)%10).toNat)]:=by
  rw[Lib.decDigits,dif_neg (by omega)]
  congr 3<;>omega
 have e3:bA (45::Lib.decDigits (-n).toNat)=(⟨#[45]⟩++bA (Lib.decDigits ((-n)/10).toNat))++bA [UInt8.ofNat (48+((-n)%10).toNat)]:=by
  rw[hd];apply ByteArray.ext;simp
 have l1:=decD_size ((-n)/10).toNat (by omega)
 have l2:(bA [UInt8.ofNat (48+((-n)%10).toNat)]).size=1:=rfl
 rw[e3]
 clear e3 hd e1 e2 d1 d2
 generalize bA (Lib.decDigits ((-n)/10).toNat)=S1 at *
 generalize bA [UInt8.ofNat (48+((-n)%10).toNat)]=S2 at *
 have l3:(⟨#[45]⟩++S1:ByteArray).size≤101:=by rw[ByteArray.size_append];show 1+S1.size≤101;omega
 go_enter Tryd.func17,Tryd.ntmps17
 go_wp2_with (go_at_call 17;first|(with_reducible refine (c1 _).mono ?_;rintro e w1 ⟨rfl,g⟩)|(with_reducible refine (c2 _).mono ?_;rintro e w2 ⟨rfl,g2⟩))
 go_ret
 exact⟨rfl,g.trans g2⟩

theorem digits_link {fi:FI} (vs:List PV) (gh:List GObj) (r:PV) (gh':List GObj) (h:libItoa vs gh=some (r,gh')):CallOk Tryd.prog fi 17 vs gh r gh':=by
 intro M w args hG hlb hown hlen hrep
 unfold libItoa at h
 split at h
 ·rename_i n
  split at h
  case isFalse=>cases h
  rename_i hc
  cases h
  obtain⟨v,rfl⟩:=List.length_eq_one_iff.1 hlen
  have hv:=hrep 0 _ _ rfl rfl
  cases hv
  have key:Calls Tryd.prog 17 #[.int .i64 n] w fun e w'=>e= .returned (.string (bA (itoaK n)))∧Grw w w':=by
   rw[jc5 hc.1 hc.2]
   unfold Lib.itoa
   by_cases h0:n<0
   ·rw[if_pos h0]
    have e:n.natAbs=(-n).toNat:=by omega
    rw[e]
    by_cases h1: -10<n
    ·exact digits_neg1 n w h0 h1
    ·exact digits_neg2 n w (by omega) hc.1
   ·rw[if_neg h0]
    exact digits_nat 19 n w (by omega) (by omega) hc.2
  refine key.mono ?_
  rintro e w' ⟨rfl,g⟩
  obtain⟨h1,h2⟩:=GI.same hG g.1 g.2.1 g.2.2.1 g.2.2.2.1 g.2.2.2.2
  exact⟨_,M,rfl,h1,hlb,rfl,(RepP.str _).repE.repAt,h2⟩
 ·cases h

def glOf:List (Nat×Nat×Option Value):=tabGl 0 .u64 Lib.pow10Tab

theorem linked (gl:List (Nat×Nat×Option Value)):(links.all fun x=>linkF Tryd.prog (fiG links gl bldTs 5) pg x.1 x.2)=true:=by kernel_rfl

theorem link:LinkOk Tryd.prog (fiG links (glOf) bldTs 5) pg:=by
 have hpow : ∀ w, GlAt (fiG links (glOf ) bldTs 5) w → Lib.TabIs Tryd.prog w "internal/strconv.uint64pow10" .u64 Lib.pow10Tab := fun w h => jh0 (g := 0) (by kernel_rfl) (by decide) (fun x hx => hx) h
 refine jfg (linked _) ?_
 intro f F L hm hp
 have h:∀x∈links,isLib pg x.1=true→x=(260,13)∨x=(357,12)∨x=(359,14)∨x=(363,17):=by decide +kernel
 rcases h (f,F) hm (by simp[isLib,hp]) with hx|hx|hx|hx
 ·cases hx
  have e:L=libItoa:=by
   have e2:pg 260=some (.lib (libItoa)):=rfl
   rw[e2] at hp;cases hp;rfl
  subst e
  exact fun vs gh r gh' h _=>jh1 (ρ:=laysItoa_ren) laysItoa hpow vs gh r gh' h
 ·cases hx
  have e:L=libWS:=by
   have e2:pg 357=some (.lib (libWS)):=rfl
   rw[e2] at hp;cases hp;rfl
  subst e
  exact fun vs gh r gh' h _=>jhb (fi:=fiG links (glOf) bldTs 5) write_ok vs gh r gh' h
 ·cases hx
  have e:L=libBS:=by
   have e2:pg 359=some (.lib (libBS)):=rfl
   rw[e2] at hp;cases hp;rfl
  subst e
  exact fun vs gh r gh' h _=>jhe (fi:=fiG links (glOf) bldTs 5) read_ok vs gh r gh' h
 ·cases hx
  have e:L=libItoa:=by
   have e2:pg 363=some (.lib (libItoa)):=rfl
   rw[e2] at hp;cases hp;rfl
  subst e
  exact fun vs gh r gh' h _=>digits_link vs gh r gh' h

theorem own:ownKnob Tryd.prog.godebug=none:=by kernel_rfl
theorem laidOut:laidOutB Tryd.prog=true:=by kernel_rfl


noncomputable def laidWorld (os:Os):World:=World.doorLaid Tryd.prog 77 os

theorem laid_met (os:Os):laidMetH Tryd.prog Rows.cnfHoldsUptoRow.laid ((laidWorld os).forCall (fun _ _=>0) ⟨#[],#[.agg #[.int .i64 0,.slice none 0 0],.slice none 0 0],[]⟩).memory:=
 laidMet_of_run3 8 (by kernel_rfl) (by kernel_rfl) (by kernel_rfl)

theorem reads (os:Os) {H:Type} (enc:TypeId×Value→H):DataW.whole enc Tryd.prog ((laidWorld os).forCall (fun _ _=>0) ⟨#[],#[.agg #[.int .i64 0,.slice none 0 0],.slice none 0 0],[]⟩).memory Tryd.f3.params.toList Rows.cnfHoldsSpec.vars false #[.agg #[.int .i64 0,.slice none 0 0],.slice none 0 0].toList 8=some ([.agg [.lit (.int .i64 0),.nil],.nil],[],[]):=by kernel_rfl

theorem lifted (os:Os) (started:os.Started) (H:Type) (enc:TypeId×Value→H) (F:Stop.Interp) :
  ReturnsInHanded {} Tryd.checked os 3 .any ((Rows.OpenSpec.upto Rows.cnfHoldsSpec).preRow enc Tryd.prog Tryd.f3 Rows.cnfHoldsUptoRow.domain false Rows.cnfHoldsUptoRow.laid) (((Rows.OpenSpec.upto Rows.cnfHoldsSpec).at F).post enc Tryd.prog Tryd.f3 false true false false):=by
 refine returnsInHanded_of_row (C:=Tryd.checked) (s:=(Rows.OpenSpec.upto Rows.cnfHoldsSpec)) own started (by kernel_rfl) Tryd.func3
  (witness_row_atRef (enc:=enc) (C:=Tryd.checked) false (laidWorld os) #[.agg #[.int .i64 0,.slice none 0 0],.slice none 0 0] rfl (by kernel_rfl) (by kernel_rfl) (by kernel_rfl)
   (OpenSpec.preRow_of_cond 8 (reads os enc) (by kernel_rfl) (fun k hk=>by cases hk;kernel_rfl) (by kernel_rfl) (laid_met os))) ?_
 intro W base args ds gs before hval hW hcnd hk0 hwt hL hsh _
 have hkk:=hk0 _ rfl
 have hW':=hW
 obtain⟨p,q,hA,hV,rfl,hfz,hnd⟩:=hW
 have hA0:DataW.TrodAll enc Tryd.prog W 0 (fun _=>true) true Tryd.f3.params.toList args.toList ds p:=hA
 obtain⟨rfl,rfl⟩:=trodVars_none hV
 have hw:(DataW.weightsEach Tryd.prog Tryd.f3.params.toList ds).all (· ≤reachBytes)=true:=by
  have h:(DataW.weightsEach Tryd.prog (Tryd.f3.params.toList++[]) (ds++[])).all (· ≤reachBytes)=true:=hwt
  rwa [List.append_nil,List.append_nil] at h
 have hval2:∀(j:Nat) t v,Tryd.f3.params.toList[j]?=some t→args.toList[j]?=some v→Value.okWide Tryd.prog W .any base t v:=fun j t v h1 h2=>hval j t v (by rw[←Array.getElem?_toList];exact h1) (by rw[←Array.getElem?_toList];exact h2)
 have hmet:laidMet Tryd.prog Rows.cnfHoldsUptoRow.laid W:=hL
 have ht : Lib.TabIs Tryd.prog W "internal/strconv.uint64pow10" .u64 Lib.pow10Tab := jh3 (g := 0) hmet (by rw [← (show Rows.laid_internal_strconv_uint64pow10 = Lib.tabData .u64 Lib.pow10Tab by kernel_rfl)]; simp [Rows.cnfHoldsUptoRow]) (by kernel_rfl) (by kernel_rfl) Tryd.underlying84 Tryd.underlying78 (by kernel_rfl) (by kernel_rfl)
 have hgl:∀x∈(fiG links (glOf) bldTs 5).gl,x.1<W.heap.size∧W.cell? ⟨x.1,x.2.1,none⟩=x.2.2:=by
  intro x hx
  exact jh4 ht (by kernel_rfl) (by decide) x hx
 have hrun:=jfh (enc:=enc) (P:=Tryd.prog) (fi:=fiG links (glOf) bldTs 5) (pg:=pg) (f:=383) (F:=3) (n:=20) (by decide +kernel) (link) rfl (L:=insCnfHolds) (by rw[Tryd.params3];with_unfolding_all rfl) jgz hA0 hval2 hw (jhg hkk) hgl
 have hA1:=hA0
 rw[Tryd.params3] at hA1
 obtain⟨v0,vs0,d0,ds0,p0,q0,hargs,rfl,rfl,h0,r0⟩:=trodAll_cons hA1
 obtain⟨v1,vs1,d1,ds1,p1,q1,rfl,rfl,rfl,h1,r1⟩:=trodAll_cons r0
 obtain⟨rfl,rfl,rfl⟩:=trodAll_nil r1
 obtain rfl:args= #[v0,v1]:=by cases args;simp_all
 refine hrun.mono fun e W' ⟨he,bel⟩=>?_
 subst he
 exact⟨_,rfl,_,_,_,[],_,[],hW',trodAll_mk1 (shut_bool Tryd.underlying4 _),jb0 laidOut bel (by kernel_rfl) hA0,rfl,bel.frame _,fun h=>by cases h⟩

theorem over:Rows.cnfHoldsUptoRow.holds Tryd.pinned (Rows.OpenSpec.upto Rows.cnfHoldsSpec):=
 OpenClaim.holds_of_cond 3 Tryd.f3 rfl rfl rfl rfl rfl rfl rfl ⟨rfl,rfl,rfl,rfl,rfl⟩ rfl rfl rfl rfl rfl (by kernel_rfl) Tryd.func3 (by kernel_rfl)
  (of_decide_eq_true (by kernel_rfl)) (by unfold Func.isWrapper;first|(rw[if_pos (by decide +kernel)];kernel_rfl)|(rw[if_neg (by decide +kernel)];exact⟨rfl,rfl⟩))
  (fun os started H enc _ F=>by rw[OpenClaim.pre_eq_preRow];exact lifted os started H enc F)

theorem plain (f : FuncId) (fn : Func) (hf : Tryd.pinned.checked.prog.funcNamed "latchwork/latchworklaw.CnfHolds" = some f) (hfn : Tryd.pinned.checked.prog.funcs[f]? = some fn) :
  false=Tryd.pinned.checked.prog.looks []∧∀(j:Nat) t,fn.params[j]?=some t→Tryd.pinned.checked.prog.wantsStandIn t=false:=by
 obtain rfl : f = 3 := Option.some.inj ((show Tryd.prog.funcNamed "latchwork/latchworklaw.CnfHolds" = some 3 by kernel_rfl).symm.trans hf) |>.symm
 obtain rfl:fn=Tryd.f3:=(Option.some.inj (Tryd.func3.symm.trans hfn)).symm
 refine⟨by kernel_rfl,fun j t ht=>?_⟩
 rw[Tryd.params3] at ht
 have hall:∀t∈([24,25]:List TypeId),Tryd.prog.wantsStandIn t=false:=by decide +kernel
 exact hall t (by simpa using Array.mem_of_getElem? ht)
theorem proved:Rows.CnfHoldsUptoCardSaid:=
 Claim7.holds_tied_plain_at .later [] _ _ _ _ over (fun _ h=>by cases h) (by kernel_rfl) (fun _ h=>by cases h) cnfHoldsUpto_row_tie rfl ⟨rfl,rfl⟩ (by kernel_rfl) rfl plain (by kernel_rfl)
#print axioms proved
end Go.Proofs.YtmodipglnngghabDoor.cnfHoldsDone
end
