/-
  The texts that the proof stands on, part 26.
-/
import Derived.Test.YtmodipglnngghadGreatDoorRestModelsK
set_option linter.unusedVariables false
set_option linter.unusedSimpArgs false
set_option linter.unnecessarySimpa false

set_option maxRecDepth 100000
set_option maxHeartbeats 4000000
namespace Go.Lw
open Go
section
variable {α:Type}
abbrev R1:=gq
def ob1 {α:Type}:Option α->(α->R1)->R1
 |some a,f=>f a
 |none,_=>none
def gdK (w:Bool) (a:Option St) (f:St->R1) (s:St):PV->R1
 | .bool b=>cond (b==w) (ob1 a f) (f s)
 | .und=>f s
 |_=>none
noncomputable def iI (a:CallF):List IOpG->(St->R1)->St->R1
 |[],k,s=>k s
 |o::l,k,s=>match o.guard with
  |none=>ob1 (ae a s o.op) (iI a l k)
  |some (g,w)=>ob1 (get s.env g) (gdK w (ae a s o.op) (iI a l k) (eQ s o.op))
def sqK (f:St->R1) (k:IExit->St->R1):IExit->St->R1
 | .normal,s=>f s
 |e,s=>k e s
def cdK (f g:St->R1) (s:St):PV->R1
 | .bool true=>f s
 | .bool false=>g s
 |_=>none
def bkK (a:Nat) (k:IExit->St->R1):IExit->St->R1
 | .exit i,s=>cond (i==a) (k .normal s) (k (.exit i) s)
 |e,s=>k e s
def poK (b:gj) (a:Nat) (k:IExit->St->R1):IExit->St->R1
 | .normal,s=>k .normal ⟨keep a b s.env,s.lh.take a,s.gh⟩
 |e,s=>k e s
def lfK (a:gj) (t:Nat) (k:IExit->St->R1):IExit->St->R1
 | .normal,s=>ob1 (jD a t s) (k .normal)
 |e,s=>k e s
def prK (k:IExit->St->R1) (r:IExit×St):R1:=k r.1 r.2
def fiK (e:IExit) (s:St):R1:=some (e,s)
noncomputable def evK (pg:Prg):ICode->(IExit->St->R1)->St->R1
 | .skip,k,s=>k .normal s
 | .region ops _,k,s=>iI (ac pg) ops (k .normal) s
 | .seq a b,k,s=>evK pg a (sqK (evK pg b k) k) s
 | .cond x a b,k,s=>ob1 (ai s.env x) (cdK (evK pg a k) (evK pg b k) s)
 | .block d a,k,s=>evK pg a (bkK d k) s
 | .exit i,k,s=>k (.exit i) s
 | .ret,k,s=>k .ret s
 | .post a ks nl,k,s=>evK pg a (poK ks nl k) s
 | .lift a ks t,k,s=>evK pg a (lfK ks t k) s
 | .cut a,k,s=>ob1 (bm pg a s) (prK k)
 |c,k,s=>ob1 (bm pg c s) (prK k)
theorem Gl (a:CallF) (l:List IOpG) (s:St) (k:St->R1):iI a l k s=(dt a l s).bind k:=by
 induction l generalizing s with
 |nil=>rfl
 | cons o l c=>
  have e:∀o:IOp,ob1 (ae a s o) (iI a l k)=((ae a s o).bind (dt a l)).bind k:=λo=>by
   cases ae a s o with
   |none=>rfl
   |some f=>exact c f
  rcases o with ⟨op,_|⟨g,w⟩⟩
  ·exact e op
  ·unfold iI dt
   simp only;rcases get s.env g with _|v
   ·rfl
   ·cases v<;>try rfl
    ·exact c _
    ·rename_i b
     by_cases d:b=w
     ·subst d;simpa [ob1,gdK] using e op
     ·have:(b==w)=false:=by simpa using d
      simp only[ob1,gdK,this,d,if_false,cond];exact c _
theorem Gm (pg:Prg) (c:ICode) (s:St) (k:IExit->St->R1):evK pg c k s=(bm pg c s).bind (prK k):=by
 have j:∀(o:R1),ob1 o (prK k)=o.bind (prK k):=λo=>by cases o<;>rfl
 induction c generalizing s k with
 |skip=>rw[Dv];rfl
 |region ops d=>rw[Dy,evK,Gl];cases dt (ac pg) ops s<;>rfl
 | seq a b g f=>
  rw[DA,evK,g _ _ (λo=>by cases o<;>rfl)];rcases bm pg a s with _|⟨e,s'⟩
  ·rfl
  ·cases e with
   |normal=>exact f _ _ j
   |exit i=>rfl
   |ret=>rfl
 | cond x a b g f=>
  rw[Dz,evK];rcases ai s.env x with _|v
  ·rfl
  ·cases v<;>try rfl
   rename_i c;cases c
   ·exact f _ _ j
   ·exact g _ _ j
 | block m a h=>
  rw[nO,evK,h _ _ (λo=>by cases o<;>rfl)];rcases bm pg a s with _|⟨e,s'⟩
  ·rfl
  ·cases e with
   |normal=>rfl
   |ret=>rfl
   | exit i=>
    by_cases l:i=m
    ·subst l;simp[prK,bkK]
    ·have:(i==m)=false:=by simpa using l
     simp[this,l,prK,bkK]
 |exit i=>rw[Dw];rfl
 |ret=>rw[Dx];rfl
 |post a ks nl h=>
  rw[nP,evK,h _ _ (λo=>by cases o<;>rfl)];rcases bm pg a s with _|⟨e,s'⟩
  ·rfl
  ·cases e<;>rfl
 | lift a ks t h=>
  rw[DB,evK,h _ _ (λo=>by cases o<;>rfl)];rcases bm pg a s with _|⟨e,s'⟩
  ·rfl
  ·cases e with
   |normal=>show ob1 (jD ks t s') _=((jD ks t s').map _).bind _;cases jD ks t s'<;>rfl
   |exit i=>rfl
   |ret=>rfl
 |cut a=>rw[DC];exact j _
 |_=>exact j _
theorem bg {pg:Prg} {c:ICode} {s:St} {r:R1} (h:evK pg c fiK s=r):bm pg c s=r:=by rw[Gm] at h;rw[<-h];cases bm pg c s<;>rfl
theorem evR {pg:Prg} {c:ICode} {s:St}:bm pg c s=evK pg c fiK s:=(bg rfl)
section
variable {pg:Prg} {s:St} (a b:ICode) (ops:List IOpG) (d:Bool) (x:IX) (ks:gj) (nl:Nat)
@[simp] theorem evR_seq : bm pg (.seq a b) s = evK pg (.seq a b) fiK s := evR
@[simp] theorem evR_region : bm pg (.region ops d) s = evK pg (.region ops d) fiK s := evR
@[simp] theorem evR_cond : bm pg (.cond x a b) s = evK pg (.cond x a b) fiK s := evR
@[simp] theorem evR_po1 : bm pg (.post (.seq a b) ks nl) s = evK pg (.post (.seq a b) ks nl) fiK s := evR
@[simp] theorem evR_po2 : bm pg (.post (.region ops d) ks nl) s = evK pg (.post (.region ops d) ks nl) fiK s := evR
@[simp] theorem evR_po3 : bm pg (.post (.cond x a b) ks nl) s = evK pg (.post (.cond x a b) ks nl) fiK s := evR
end
@[simp high] theorem cond_tt (x y : α) : cond true x y = x := (rfl)
@[simp high] theorem cond_ff (x y : α) : cond false x y = y := (rfl)
theorem bu {b c:Bool} {x y:α} (h:b=c):cond b x y=cond c x y:=by rw[h]
section
variable {pg:Prg} {cf:CallF} {s:St} {k:IExit->St->R1} {kk f g:St->R1}
@[simp] theorem evK_skip : evK pg .skip k s = k .normal s := (rfl)
@[simp] theorem evK_region (a : List IOpG) (d : Bool) : evK pg (.region a d) k s = iI (ac pg) a (k .normal) s := (rfl)
@[simp] theorem evK_seq (a b : ICode) : evK pg (.seq a b) k s = evK pg a (sqK (evK pg b k) k) s := (rfl)
@[simp] theorem evK_cond (x : IX) (a b : ICode) : evK pg (.cond x a b) k s = ob1 (ai s.env x) (cdK (evK pg a k) (evK pg b k) s) := (rfl)
@[simp] theorem evK_block (b : Nat) (a : ICode) : evK pg (.block b a) k s = evK pg a (bkK b k) s := (rfl)
@[simp] theorem evK_exit (i : Nat) : evK pg (.exit i) k s = k (.exit i) s := (rfl)
@[simp] theorem evK_ret : evK pg .ret k s = k .ret s := (rfl)
@[simp] theorem evK_post (a : ICode) (c : gj) (b : Nat) : evK pg (.post a c b) k s = evK pg a (poK c b k) s := (rfl)
@[simp] theorem evK_lift (a : ICode) (b : gj) (t : Nat) : evK pg (.lift a b t) k s = evK pg a (lfK b t k) s := (rfl)
@[simp] theorem evK_cut (a : ICode) : evK pg (.cut a) k s = ob1 (bm pg a s) (prK k) := (rfl)
@[simp] theorem evK_loop (a : ICode) : evK pg (.loop a) k s = ob1 (bm pg (.loop a) s) (prK k) := (rfl)
@[simp] theorem opsK_nil : iI cf [] kk s = kk s := (rfl)
@[simp] theorem opsK_cons (o : IOp) (l : List IOpG) : iI cf (⟨o, none⟩ :: l) kk s = ob1 (ae cf s o) (iI cf l kk) := (rfl)
@[simp] theorem opsK_guard (o : IOp) (g : Nat) (w : Bool) (l : List IOpG) : iI cf (⟨o, some (g, w)⟩ :: l) kk s = ob1 (get s.env g) (gdK w (ae cf s o) (iI cf l kk) (eQ s o)) := (rfl)
@[simp] theorem ob1_some (a : α) (f : α -> R1) : ob1 (some a) f = f a := (rfl)
@[simp] theorem gdK_bool (w b : Bool) (a : Option St) : gdK w a f s (.bool b) = cond (b == w) (ob1 a f) (f s) := (rfl)
@[simp] theorem gdK_und (w : Bool) (a : Option St) : gdK w a f s .und = f s := (rfl)
@[simp] theorem sqK_n : sqK f k .normal s = f s := (rfl)
@[simp] theorem sqK_e (i : Nat) : sqK f k (.exit i) s = k (.exit i) s := (rfl)
@[simp] theorem sqK_r : sqK f k .ret s = k .ret s := (rfl)
@[simp] theorem cdK_b (b : Bool) : cdK f g s (.bool b) = cond b (f s) (g s) := by cases b <;> rfl
@[simp] theorem bkK_n (i : Nat) : bkK i k .normal s = k .normal s := (rfl)
@[simp] theorem bkK_e (a i : Nat) : bkK a k (.exit i) s = cond (i == a) (k .normal s) (k (.exit i) s) := (rfl)
@[simp] theorem bkK_r (i : Nat) : bkK i k .ret s = k .ret s := (rfl)
@[simp] theorem poK_n (b : gj) (a : Nat) : poK b a k .normal s = k .normal ⟨keep a b s.env, s.lh.take a, s.gh⟩ := (rfl)
@[simp] theorem poK_e (b : gj) (a i : Nat) : poK b a k (.exit i) s = k (.exit i) s := (rfl)
@[simp] theorem poK_r (b : gj) (a : Nat) : poK b a k .ret s = k .ret s := (rfl)
@[simp] theorem lfK_n (a : gj) (t : Nat) : lfK a t k .normal s = ob1 (jD a t s) (k .normal) := (rfl)
@[simp] theorem lfK_e (a : gj) (t i : Nat) : lfK a t k (.exit i) s = k (.exit i) s := (rfl)
@[simp] theorem lfK_r (a : gj) (t : Nat) : lfK a t k .ret s = k .ret s := (rfl)
@[simp] theorem prK_eq (e : IExit) : prK k (e, s) = k e s := (rfl)
@[simp] theorem fiK_eq (e : IExit) : fiK e s = some (e, s) := (rfl)
end
@[simp] theorem keep_nil (a : Nat) (e : List (Nat × PV)) : keep a [] e = [] := (rfl)
@[simp] theorem keep_cons (b t a : Nat) (l : gj) (v : PV) (e : List (Nat × PV)) : keep b (t :: l) ((a, v) :: e) = match get ((a, v) :: e) t with
  |some c=>cond (bj b c) ((t,c)::keep b l ((a,v)::e)) (keep b l ((a,v)::e))
  |none=>keep b l ((a,v)::e):=by
 rw[keep];split<;>simp_all [cond_eq_ite]
@[simp] theorem dg_int (k : IntKind) (x : Int) : degr (.int k x) = .int k x := (rfl)
@[simp] theorem dg_bool (x : Bool) : degr (.bool x) = .bool x := (rfl)
@[simp] theorem dg_str (x : ByteArray) : degr (.str x) = .str x := (rfl)
@[simp] theorem dg_bs (g : Bool) (b o n z : Nat) : degr (.bs g b o n z) = .bs g b o n z := (rfl)
@[simp] theorem dg_ptr (g : Bool) (b o : Nat) : degr (.ptr g b o) = .ptr g b o := (rfl)
@[simp] theorem dg_nilp : degr (.nilp) = .nilp := (rfl)
@[simp] theorem dg_ep (e : PV) (o : Nat) : degr (.ep e o) = .ep e o := (rfl)
@[simp] theorem dg_mp (b : Nat) : degr (.mp b) = .mp b := (rfl)
@[simp] theorem dg_nilm : degr (.nilm) = .nilm := (rfl)
@[simp] theorem dg_nilf : degr (.nilf) = .nilf := (rfl)
@[simp] theorem dg_nils : degr (.nils) = .nils := (rfl)
@[simp] theorem dg_stk (b g n : Nat) : degr (.stk b g n) = .stk b g n := (rfl)
@[simp] theorem dg_pstk (b g n : Nat) : degr (.pstk b g n) = .pstk b g n := (rfl)
@[simp] theorem dg_sub (b g o n : Nat) : degr (.sub b g o n) = .sub b g o n := (rfl)
@[simp] theorem dg_fn (f : Nat) (l : fw) : degr (.fn f l) = .fn f l := (rfl)
@[simp] theorem dg_bfn (f : Nat) (l : fw) : degr (.bfn f l) = .bfn f l := (rfl)
@[simp] theorem dg_nilI : degr (.nilI) = .nilI := (rfl)
@[simp] theorem dg_someI : degr (.someI) = .someI := (rfl)
@[simp] theorem dg_sl (o : Bool) (z : Nat) (l : fw) : degr (.sl o z l) = .sl false z l := (rfl)
@[simp] theorem dg_agg (l : fw) : degr (.agg l) = .agg (l.map aw) := (rfl)
@[simp] theorem dg_tup (l : fw) : degr (.tup l) = .tup (l.map aw) := (rfl)
@[simp] theorem dh_int (k : IntKind) (x : Int) : aw (.int k x) = .int k x := (rfl)
@[simp] theorem dh_bool (x : Bool) : aw (.bool x) = .bool x := (rfl)
@[simp] theorem dh_str (x : ByteArray) : aw (.str x) = .str x := (rfl)
@[simp] theorem dh_bs (g : Bool) (b o n z : Nat) : aw (.bs g b o n z) = .bs g b o n z := (rfl)
@[simp] theorem dh_ptr (g : Bool) (b o : Nat) : aw (.ptr g b o) = .ptr g b o := (rfl)
@[simp] theorem dh_nilp : aw (.nilp) = .nilp := (rfl)
@[simp] theorem dh_ep (e : PV) (o : Nat) : aw (.ep e o) = .ep e o := (rfl)
@[simp] theorem dh_mp (b : Nat) : aw (.mp b) = .mp b := (rfl)
@[simp] theorem dh_nilm : aw (.nilm) = .nilm := (rfl)
@[simp] theorem dh_nilf : aw (.nilf) = .nilf := (rfl)
@[simp] theorem dh_nils : aw (.nils) = .nils := (rfl)
@[simp] theorem dh_stk (b g n : Nat) : aw (.stk b g n) = .stk b g n := (rfl)
@[simp] theorem dh_pstk (b g n : Nat) : aw (.pstk b g n) = .pstk b g n := (rfl)
@[simp] theorem dh_sub (b g o n : Nat) : aw (.sub b g o n) = .sub b g o n := (rfl)
@[simp] theorem dh_fn (f : Nat) (l : fw) : aw (.fn f l) = .fn f l := (rfl)
@[simp] theorem dh_bfn (f : Nat) (l : fw) : aw (.bfn f l) = .bfn f l := (rfl)
@[simp] theorem dh_nilI : aw (.nilI) = .nilI := (rfl)
@[simp] theorem dh_someI : aw (.someI) = .someI := (rfl)
@[simp] theorem dh_agg (l : fw) : aw (.agg l) = .agg l := (rfl)
@[simp] theorem dh_tup (l : fw) : aw (.tup l) = .tup l := (rfl)
@[simp] theorem dh_sl (o : Bool) (z : Nat) (l : fw) : aw (.sl o z l) = .sl false z l := (rfl)
@[simp] theorem ce_int (k : IntKind) (x : Int) : PV.cells (.int k x) = [.int k x] := (rfl)
@[simp] theorem ce_bool (x : Bool) : PV.cells (.bool x) = [.bool x] := (rfl)
@[simp] theorem ce_str (x : ByteArray) : PV.cells (.str x) = [.str x] := (rfl)
@[simp] theorem ce_bs (g : Bool) (b o n z : Nat) : PV.cells (.bs g b o n z) = [.bs g b o n z] := (rfl)
@[simp] theorem ce_ptr (g : Bool) (b o : Nat) : PV.cells (.ptr g b o) = [.ptr g b o] := (rfl)
@[simp] theorem ce_nilp : PV.cells (.nilp) = [.nilp] := (rfl)
@[simp] theorem ce_ep (e : PV) (o : Nat) : PV.cells (.ep e o) = [.ep e o] := (rfl)
@[simp] theorem ce_mp (b : Nat) : PV.cells (.mp b) = [.mp b] := (rfl)
@[simp] theorem ce_nilm : PV.cells (.nilm) = [.nilm] := (rfl)
@[simp] theorem ce_nilf : PV.cells (.nilf) = [.nilf] := (rfl)
@[simp] theorem ce_nils : PV.cells (.nils) = [.nils] := (rfl)
@[simp] theorem ce_stk (b g n : Nat) : PV.cells (.stk b g n) = [.stk b g n] := (rfl)
@[simp] theorem ce_pstk (b g n : Nat) : PV.cells (.pstk b g n) = [.pstk b g n] := (rfl)
@[simp] theorem ce_sub (b g o n : Nat) : PV.cells (.sub b g o n) = [.sub b g o n] := (rfl)
@[simp] theorem ce_fn (f : Nat) (l : fw) : PV.cells (.fn f l) = [.fn f l] := (rfl)
@[simp] theorem ce_bfn (f : Nat) (l : fw) : PV.cells (.bfn f l) = [.bfn f l] := (rfl)
@[simp] theorem ce_nilI : PV.cells (.nilI) = [.nilI] := (rfl)
@[simp] theorem ce_someI : PV.cells (.someI) = [.someI] := (rfl)
@[simp] theorem ce_sl (o : Bool) (z : Nat) (l : fw) : PV.cells (.sl o z l) = [.sl o z l] := (rfl)
@[simp] theorem ce_agg (l : fw) : PV.cells (.agg l) = l := (rfl)
def jI (k:IntKind) (a b:Int):Int:=k.wrap (BitVec.ofInt k.bits a &&&BitVec.ofInt k.bits b).toNat
def iOr (k:IntKind) (a b:Int):Int:=k.wrap (BitVec.ofInt k.bits a |||BitVec.ofInt k.bits b).toNat
def gz (k:IntKind) (a b:Int):Int:=k.wrap (BitVec.ofInt k.bits a ^^^BitVec.ofInt k.bits b).toNat
def eR (k:IntKind) (a b:Int):Int:=k.wrap (a*2^(min b.toNat k.bits))
def kg (k:IntKind) (a b:Int):Int:=a.fdiv (2^(min b.toNat k.bits))
def mS (k:IntKind) (n:Int):Int:=k.wrap (BitVec.ofInt k.bits (if k.signed then -1 else k.max) ^^^BitVec.ofInt k.bits n).toNat
section
variable {kd:IntKind} {a b:Int}
@[simp] theorem bp_add : fu .add (.int kd a) (.int kd b) = some (.int kd (kd.wrap (a + b))) := by simp only [fu, if_true] <;> rfl
@[simp] theorem bp_sub : fu .sub (.int kd a) (.int kd b) = some (.int kd (kd.wrap (a - b))) := by simp only [fu, if_true] <;> rfl
@[simp] theorem bp_mul : fu .mul (.int kd a) (.int kd b) = some (.int kd (kd.wrap (a * b))) := by simp only [fu, if_true] <;> rfl
@[simp] theorem bp_and : fu .and (.int kd a) (.int kd b) = some (.int kd (jI kd a b)) := by simp only [fu, if_true] <;> rfl
@[simp] theorem bp_or : fu .or (.int kd a) (.int kd b) = some (.int kd (iOr kd a b)) := by simp only [fu, if_true] <;> rfl
@[simp] theorem bp_xor : fu .xor (.int kd a) (.int kd b) = some (.int kd (gz kd a b)) := by simp only [fu, if_true] <;> rfl
@[simp] theorem bp_eql : fu .eql (.int kd a) (.int kd b) = some (.bool (a == b)) := by simp only [fu, if_true] <;> rfl
@[simp] theorem bp_neq : fu .neq (.int kd a) (.int kd b) = some (.bool (a != b)) := by simp only [fu, if_true] <;> rfl
@[simp] theorem bp_lss : fu .lss (.int kd a) (.int kd b) = some (.bool (decide (a < b))) := by simp only [fu, if_true] <;> rfl
@[simp] theorem bp_leq : fu .leq (.int kd a) (.int kd b) = some (.bool (decide (a <= b))) := by simp only [fu, if_true] <;> rfl
@[simp] theorem bp_gtr : fu .gtr (.int kd a) (.int kd b) = some (.bool (decide (b < a))) := by simp only [fu, if_true] <;> rfl
@[simp] theorem bp_geq : fu .geq (.int kd a) (.int kd b) = some (.bool (decide (b <= a))) := by simp only [fu, if_true] <;> rfl
@[simp] theorem bp_quo : fu .quo (.int kd a) (.int kd b) = if b = 0 then none else some (.int kd (kd.wrap (a.tdiv b))) := by simp only [fu, if_true]
@[simp] theorem bp_rem : fu .rem (.int kd a) (.int kd b) = if b = 0 then none else some (.int kd (a.tmod b)) := by simp only [fu, if_true]
@[simp] theorem bp_shl (c : IntKind) : fu .shl (.int kd a) (.int c b) = if 0 <= b then some (.int kd (eR kd a b)) else none := by
 show (if b<0 then none else _)=_;by_cases h:b<0
 ·rw[if_pos h,if_neg aj]
 ·rw[if_neg h,if_pos aj];rfl
@[simp] theorem bp_shr (c : IntKind) : fu .shr (.int kd a) (.int c b) = if 0 <= b then some (.int kd (kg kd a b)) else none := by
 show (if b<0 then none else _)=_;by_cases h:b<0
 ·rw[if_pos h,if_neg aj]
 ·rw[if_neg h,if_pos aj];rfl
@[simp] theorem up_neg : mn .neg (.int kd a) = some (.int kd (kd.wrap (0 - a))) := (rfl)
@[simp] theorem up_xor : mn .xor (.int kd a) = some (.int kd (mS kd a)) := (rfl)
@[simp] theorem up_not (x : Bool) : mn .not (.bool x) = some (.bool (!x)) := (rfl)
@[simp] theorem bp_sadd (a b : ByteArray) : fu .add (.str a) (.str b) = if ((a.size + b.size : Nat) : Int) > IntKind.i64.max then none else some (.str (a ++ b)) := (rfl)
@[simp] theorem bp_seql (a b : ByteArray) : fu .eql (.str a) (.str b) = some (.bool (a.toList == b.toList)) := (rfl)
@[simp] theorem bp_sneq (a b : ByteArray) : fu .neq (.str a) (.str b) = some (.bool (!(a.toList == b.toList))) := (rfl)
@[simp] theorem fl_int : co (.int kd a) = true := (rfl)
@[simp] theorem fl_bool (x : Bool) : co (.bool x) = true := (rfl)
end
attribute [simp] ae
@[simp] theorem stay_nils (a : Nat) : bj a (.nils) = true := rfl
@[simp] theorem stay_ep (a : Nat) (e : PV) (o : Nat) : bj a (.ep e o) = true := rfl
@[simp] theorem stay_pstk (a : Nat) (b g k : Nat) : bj a (.pstk b g k) = true := rfl
@[simp] theorem stay_nilm (a : Nat) : bj a (.nilm) = true := rfl
@[simp] theorem stay_nilf (a : Nat) : bj a (.nilf) = true := rfl
@[simp] theorem stay_nilI (a : Nat) : bj a (.nilI) = true := rfl
@[simp] theorem stay_someI (a : Nat) : bj a (.someI) = true := rfl
@[simp] theorem stay_tup (a : Nat) (l : fw) : bj a (.tup l) = true := rfl
def hr (a:fB) (b:Nat):Option GObj:=a[b]?
def hw (a:fB) (b:Nat) (o:GObj):fB:=a.set b o
def ha (a:fB) (o:GObj):fB:=a++[o]
abbrev hn (a:fB):Nat:=a.length
@[simp] theorem hn_hw (a : fB) (b : Nat) (o : GObj) : hn (hw a b o) = hn a := cO ..
@[simp] theorem hn_ha (a : fB) (o : GObj) : hn (ha a o) = hn a + 1 := aQ ..
theorem qV (a:fB) (b c:Nat) (o:GObj):hr (hw a b o) c=if b=c then (hr a b).map (λ_=>o) else hr a c:=by
 show (a.set b o)[c]?=_
 rw[cM];by_cases h:b=c
 ·subst h
  rw[if_pos rfl,if_pos rfl];by_cases d:b<a.length
  ·rw[if_pos d,show hr a b=some a[b] from aA d];rfl
  ·rw[if_neg d,show hr a b=none from List.getElem?_eq_none aj];rfl
 ·rw[if_neg h,if_neg h];rfl
theorem oq (a:fB) (o:GObj) (b:Nat):hr (ha a o) b=if b=hn a then some o else hr a b:=by
 show (a++[o])[b]?=_
 by_cases h:b=hn a
 ·subst h;rw[if_pos rfl];show (a++[o])[a.length]?=_;simp only[List.getElem?_concat_length]
 ·rw[if_neg h]
  by_cases c:b<a.length
  ·exact aI c
  ·have:b≠a.length:=h
   rw[List.getElem?_eq_none (by rw[aQ];simp only[aV,cF];omega)];exact (List.getElem?_eq_none aj).symm
@[simp] theorem hr_hwe (a : fB) (b : Nat) (o : GObj) : hr (hw a b o) b = (hr a b).map (λ_ => o) := by rw [qV, if_pos rfl]
@[simp] theorem hr_hae (a : fB) (o : GObj) : hr (ha a o) (hn a) = some o := by rw [oq, if_pos rfl]
@[simp] theorem hw_ha (a : fB) (o p : GObj) : hw (ha a o) (hn a) p = ha a p := by
 show (a++[o]).set a.length p=a++[p]
 rw[List.set_append_right _ _ (cW _)];simp only[Nat.sub_self,List.set_cons_zero]
@[simp] theorem hw_hw (a : fB) (b : Nat) (o p : GObj) : hw (hw a b o) b p = hw a b p := List.set_set ..
section
variable (e:fT) (n:Nat) (v:PV) (gh:fB)
@[simp] theorem evalX_t : ai e (.t n) = (get e n).map degr := (rfl)
@[simp] theorem evalX_c : ai e (.c v) = some (degr v) := (rfl)
@[simp] theorem evalX_f : ai e (.f n) = some (.fn n []) := (rfl)
@[simp] theorem evalK_t : gG e (.t n) = (get e n).map degr := (rfl)
@[simp] theorem evalK_c : gG e (.c v) = some v := (rfl)
@[simp] theorem evalK_f : gG e (.f n) = some (.fn n []) := (rfl)
@[simp] theorem takeX_t : f6 e (.t n) = (get e n).map λv => (v, Lw.put e n (degr v)) := (rfl)
@[simp] theorem takeX_c : f6 e (.c v) = some (v, e) := (rfl)
@[simp] theorem takeX_f : f6 e (.f n) = some (.fn n [], e) := (rfl)
@[simp] theorem elsOf_sl (o : Bool) (l : fw) : gH gh (.sl o 1 l) = some l := (rfl)
@[simp] theorem elsOf_nils : gH gh .nils = some [] := (rfl)
@[simp] theorem elsOf_stk (b g k : Nat) : gH gh (.stk b g k) = match gh[b]? with
  |some (.stk c a)=>if c=g/\k<=a.length then some (a.take k) else none
  |_=>none:=(rfl)
@[simp] theorem elsOf_sub (b g o k : Nat) : gH gh (.sub b g o k) = match gh[b]? with
  |some (.stk c a)=>if c=g/\o+k<=a.length then some ((a.drop o).take k) else none
  |_=>none:=(rfl)
end
attribute [simp] fk get Lw.put ei iW iX dN jC eO St.cellsAt St.setCells dD bq eQ eF j5 jB fj j6 kG St.newBox jD
def jJ:PV->Option Int
 | .sl _ _ a=>some a.length
 | .bs _ _ _ n _=>some n
 | .stk _ _ n=>some n
 | .sub _ _ _ n=>some n
 | .nils=>some (0:Nat)
 |_=>none
@[simp] theorem op_len (s : St) (d : Nat) (x : IX) : iY s d 0 x = (ai s.env x).bind λv => (jJ v).map λn => s.put d (.int .i64 n) := by
 unfold iY;rcases ai s.env x with _|v
 ·rfl
 ·cases v<;>rfl
@[simp] theorem op_lenS (s : St) (d : Nat) (x : IX) : iY s d 1 x = (ai s.env x).bind λv => match v with
  | .str b=>some (s.put d (.int .i64 b.size))
  |_=>none:=by
 unfold iY;rcases ai s.env x with _|v
 ·rfl
 ·cases v<;>rfl
@[simp] theorem op_lenM (s : St) (d : Nat) (x : IX) : iY s d 2 x = (ai s.env x).bind λv => match v with
  | .mp b=>match s.gh[b]? with
   |some (.map a)=>some (s.put d (.int .i64 a.length))
   |_=>none
  |_=>none:=by
 unfold iY;rcases ai s.env x with _|v
 ·rfl
 ·cases v<;>rfl
def tM (a:fB):PV->Option (List (PV×PV))
 | .mp b=>match a[b]? with
  |some (.map c)=>some c
  |_=>none
 |_=>none
@[simp] theorem mapOf_mp (a : fB) (b : Nat) : tM a (.mp b) = match a[b]? with
  |some (.map c)=>some c
  |_=>none:=rfl
theorem Gq (s:St) (d e:Nat) (m k:IX) (ok:Bool) (z:PV):H3 s d e m k ok z=(ai s.env m).bind λa=>(ai s.env k).bind λc=>(tM s.gh a).bind λf=>if eS e c=false then none else (eD e f c).map λo=>
  s.put d (if ok then .tup [o.getD (degr z),.bool o.isSome] else o.getD (degr z)):=by
 unfold H3;rcases ai s.env m with _|a
 ·rfl
 rcases ai s.env k with _|c
 ·cases a<;>rfl
 cases a<;>try rfl
 rename_i b;simp only[cJ,tM];rcases s.gh[b]? with _|o
 ·rfl
 cases o<;>try rfl
 simp only[cJ];split
 ·rfl
 ·rcases eD e _ c with _|_|v<;>rfl
attribute [simp] Gq
def apL (d:fB) (a:Nat) (h:PV) (c:fw):PV->Option (fB×PV)
 | .stk b e n=>match d[b]? with
  | some (.stk g f)=>if g=e/\n<=f.length/\(n+c.length)*a<=maxBytes/\fO b h=true/\c.all co=true then
    some (d.set b (.stk (g+1) (f.take n++c)),.stk b (g+1) (n+c.length)) else none
  |_=>none
 | .nils=>if c≠[]/\c.length*a<=maxBytes/\c.all co=true then some (d++[.stk 0 c],.stk d.length 0 c.length) else none
 |_=>none
theorem Gs (s:St) (d a:Nat) (e x:IX):lA s d a e x=(ai s.env x).bind λc=>(gH s.gh c).bind λf=>(ai s.env e).bind λv=>(apL s.gh a c f v).map λp=>⟨Lw.put s.env d p.2,s.lh,p.1⟩:=by
 unfold lA
 congr 1;funext c;congr 1;funext f
 rcases ai s.env e with _|v
 ·rfl
 ·cases v with
  | stk b g n=>
   simp only[apL,cJ];rcases s.gh[b]? with _|o
   ·rfl
   ·cases o<;>try rfl
    simp only;split<;>rfl
  |nils=>simp only[apL,cJ];split<;>rfl
  |_=>rfl
attribute [simp] Gs
section
variable (gh:fB) (b g n o z:Nat) (l:fw)
@[simp] theorem lenV_sl (o : Bool) : jJ (.sl o z l) = some l.length := (rfl)
@[simp] theorem lenV_bs (q : Bool) : jJ (.bs q b o n z) = some n := (rfl)
@[simp] theorem lenV_stk : jJ (.stk b g n) = some n := (rfl)
@[simp] theorem lenV_sub : jJ (.sub b g o n) = some n := (rfl)
@[simp] theorem lenV_nils : jJ .nils = some 0 := (rfl)
@[simp] theorem apL_stk (m : Nat) (c : PV) : apL gh m c l (.stk b g n) = match gh[b]? with
  | some (.stk a d)=>if a=g/\n<=d.length/\(n+l.length)*m<=maxBytes/\fO b c=true/\l.all co=true then
    some (gh.set b (.stk (a+1) (d.take n++l)),.stk b (a+1) (n+l.length)) else none
  |_=>none:=(rfl)
@[simp] theorem apL_nils (m : Nat) (a : PV) : apL gh m a l .nils = if l ≠ [] /\ l.length * m <= maxBytes /\ l.all co = true then some (gh ++ [.stk 0 l], .stk gh.length 0 l.length) else none := (rfl)
end
@[simp] theorem put_mk (e : List (Nat × PV)) (l : List fw) (g : fB) (t : Nat) (v : PV) : St.put ⟨e, l, g⟩ t v = ⟨Lw.put e t v, l, g⟩ := (rfl)
theorem ip {pg:Prg} {f:Nat} {fn:IFunc} {a:fw} {b:fB} {e:IExit} {s:St} (h:pg f=some (.code fn)) (c:a.length=fn.np) (hr:bm pg fn.body ⟨fk 0 a,[],b⟩=some (e,s)) :
  ac pg f a b=ag fn b (e,s):=by
 rw[Du];unfold du;rw[h];simp[c,hr]
theorem ak {pg:Prg} {f:Nat} {fn:IFunc} {b:fw} {c a:fB} {s:St} {v:PV} (h:pg f=some (.code fn)) (d:b.length=fn.np) (hr:bm pg fn.body ⟨fk 0 b,[],c⟩=fo s)
  (e:ag fn c (.ret,s)=some (v,a)):ac pg f b c=some (v,a):=by
 rw[ip h d hr];exact e
theorem ay {a:Nat} {pg:Prg} {b:ICode} {d:Nat} {c:gj} {s s1:St} {r:gq} (h:bm pg b s=fg s1) (e:bm pg (.post (.block d (.loop b)) c a) s1=r):bm pg (.post (.block d (.loop b)) c a) s=r:=by rw[<-e,nP,nO,sB,h,nP,nO]
theorem bn {a:Nat} {pg:Prg} {b:ICode} {d:Nat} {c:gj} {s s1:St} (h:bm pg b s=some (.exit d,s1)):bm pg (.post (.block d (.loop b)) c a) s=fg ⟨keep a c s1.env,s1.lh.take a,s1.gh⟩:=by rw[nP,nO,sB,h];simp
theorem cx {a:Nat} {pg:Prg} {b:ICode} {d:Nat} {c:gj} {s s1:St} (h:bm pg b s=fo s1):bm pg (.post (.block d (.loop b)) c a) s=fo s1:=by rw[nP,nO,sB,h]
theorem lQ {l:fw} (h:l.all az=true):l.all az=true:=h
end
section
attribute [local congr] bu
attribute [local simp] au
theorem Px {n:Nat} (hn:n<=1000000000):∀(k i:Nat),i+k=n->
  bm pg qnw ⟨[(0,.dj 0 1 n),(2,I (i:Int))],[],[.trash]⟩=fg ⟨[],[],[.trash]⟩
 |0,i,h=>by
  obtain rfl:i=n:=aj;refine (bn (s1:=?Z) (bg ?J)).trans ?Y
  case J=>simp[qm4];rfl
  case Y=>simp[keep,bj]
 |k+1,i,h=>by
  have a:(i:Int)<(n:Int):=aj;have b:(0:Int)<=(i:Int):=aj;have hw:WI.wrap ((i:Int)+1)=((i+1:Nat):Int):=by rw[aq aj aj];omega
  refine ay (s1:=⟨[(0,.dj 0 1 n),(2,I ((i+1:Nat):Int))],[],[.trash]⟩) (bg ?J) (Px hn k (i+1) aj)
  case J=>simp[qm4,a,b,hw]
theorem qm {n:Nat} (hn:n<=1000000000):ac pg 389 [.dj 0 1 n] [.trash]=some (.tup [],[.trash]):=by
 have a:=Px hn n 0 aj;rw[aR] at a;refine (ip (fn:=qku) (e:= .normal) (s:=⟨[],[],[.trash]⟩) rfl rfl (bg ?J)).trans ?Z
 case J=>simp[qnx,qku,a]
 case Z=>simp[ag,results,qku,ah,am,af]
theorem Py {a:gj} (g:a.length<=1000000000) (hn:∀n∈a,n<=1000000000):∀(k i:Nat),i+k=a.length->
  bm pg qm2 ⟨[(0,cr (a.map λn=> .dj 0 1 n)),(2,I (i:Int))],[],[.trash]⟩=fg ⟨[],[],[.trash]⟩
 |0,i,h=>by
  have b:¬i<(a.map λn=>PV.dj 0 1 n).length:=by rw[aW];omega
  generalize (a.map λn=>PV.dj 0 1 n)=L at *;refine (bn (s1:=?Z) (bg ?J)).trans ?Y
  case J=>simp[qkt,b];rfl
  case Y=>simp[keep,bj]
 |k+1,i,h=>by
  have c:i<a.length:=aj;have b:i<(a.map λn=>PV.dj 0 1 n).length:=by rw[aW];omega
  have e:(a.map λn=>PV.dj 0 1 n)[i]?=some (.dj 0 1 a[i]):=by simp[c]
  have f:=qm (hn _ (cD c));have hw:WI.wrap ((i:Int)+1)=((i+1:Nat):Int):=by rw[aq aj aj];omega
  have d:=Py g hn k (i+1) aj;generalize (a.map λn=>PV.dj 0 1 n)=L,a[i]=n at *;refine ay (bg ?J) d
  case J=>simp[qkt,aG b,e,f,hw]
theorem RJ {a:gj} (b:a.length<=1000000000) (hn:∀n∈a,n<=1000000000):ac pg 388 [cr (a.map λn=> .dj 0 1 n)] [.trash]=some (.tup [],[.trash]):=by
 have b:=Py b hn a.length 0 aj;rw[aR] at b;generalize (a.map λn=>PV.dj 0 1 n)=L at *;refine (ip (fn:=qkc) (e:= .normal) (s:=⟨[],[],[.trash]⟩) rfl rfl (bg ?J)).trans ?Z
 case J=>simp[qm3,qkc,b]
 case Z=>simp[ag,results,qkc,ah,am,af]
theorem RK:ac pg 388 [.dj 0 1 0] [.trash]=some (.tup [],[.trash]):=by
 have a:bm pg qm2 ⟨[(0,.dj 0 1 0),(2,I 0)],[],[.trash]⟩=fg ⟨[],[],[.trash]⟩:=by
  refine (bn (s1:=?Y) (bg ?J)).trans ?Z
  case J=>simp[qkt];rfl
  case Z=>simp
 refine (ip (fn:=qkc) (e:= .normal) (s:=⟨[],[],[.trash]⟩) rfl rfl (bg ?J)).trans ?Z
 case J=>simp[qm3,qkc,a]
 case Z=>simp[ag,results,qkc,ah,am,af]
section
variable {n0 n1 n2 n3 n4:Nat}
abbrev djM (e d c b a:Nat):fw:=[.dj 0 6 e,.dj 0 2 d,.dj 0 2 c,.dj 0 1 b,.dj 0 1 a]
theorem Pz (hn:n0<=1000000000):∀(k i:Nat),i+k=n0->
  bm pg qnz ⟨[(1,ec),(2,I (i:Int))],[djM n0 n1 n2 n3 n4],[.trash]⟩=fg ⟨[(1,ec)],[djM n0 n1 n2 n3 n4],[.trash]⟩
 |0,i,h=>by
  obtain rfl:i=n0:=aj;refine (bn (s1:=?Z) (bg ?J)).trans ?Y
  case J=>simp[qm5];rfl
  case Y=>simp[keep,bj]
 |k+1,i,h=>by
  have a:(i:Int)<(n0:Int):=aj;have b:(0:Int)<=(i:Int):=aj;have hw:WI.wrap ((i:Int)+1)=((i+1:Nat):Int):=by rw[aq aj aj];omega
  refine ay (s1:=⟨[(1,ec),(2,I ((i+1:Nat):Int))],[djM n0 n1 n2 n3 n4],[.trash]⟩) (bg ?J) (Pz hn k (i+1) aj)
  case J=>simp[qm5,a,b,hw]
theorem PA (hn:n1<=1000000000):∀(k i:Nat),i+k=n1->
  bm pg qo0 ⟨[(1,ec),(3,I (i:Int))],[djM n0 n1 n2 n3 n4],[.trash]⟩=fg ⟨[(1,ec)],[djM n0 n1 n2 n3 n4],[.trash]⟩
 |0,i,h=>by
  obtain rfl:i=n1:=aj;refine (bn (s1:=?Z) (bg ?J)).trans ?Y
  case J=>simp[qm6];rfl
  case Y=>simp[keep,bj]
 |k+1,i,h=>by
  have a:(i:Int)<(n1:Int):=aj;have b:(0:Int)<=(i:Int):=aj;have hw:WI.wrap ((i:Int)+1)=((i+1:Nat):Int):=by rw[aq aj aj];omega
  refine ay (s1:=⟨[(1,ec),(3,I ((i+1:Nat):Int))],[djM n0 n1 n2 n3 n4],[.trash]⟩) (bg ?J) (PA hn k (i+1) aj)
  case J=>simp[qm6,a,b,hw]
theorem PB (hn:n2<=1000000000):∀(k i:Nat),i+k=n2->
  bm pg qo1 ⟨[(1,ec),(4,I (i:Int))],[djM n0 n1 n2 n3 n4],[.trash]⟩=fg ⟨[(1,ec)],[djM n0 n1 n2 n3 n4],[.trash]⟩
 |0,i,h=>by
  obtain rfl:i=n2:=aj;refine (bn (s1:=?Z) (bg ?J)).trans ?Y
  case J=>simp[qm7];rfl
  case Y=>simp[keep,bj]
 |k+1,i,h=>by
  have a:(i:Int)<(n2:Int):=aj;have b:(0:Int)<=(i:Int):=aj;have hw:WI.wrap ((i:Int)+1)=((i+1:Nat):Int):=by rw[aq aj aj];omega
  refine ay (s1:=⟨[(1,ec),(4,I ((i+1:Nat):Int))],[djM n0 n1 n2 n3 n4],[.trash]⟩) (bg ?J) (PB hn k (i+1) aj)
  case J=>simp[qm7,a,b,hw]
theorem RL (k:n0<=1000000000) (j:n1<=1000000000) (i:n2<=1000000000) (h:n3<=1000000000) (g:n4<=1000000000):ac pg 400 [.agg (djM n0 n1 n2 n3 n4)] [.trash]=some (.tup [],[.trash]):=by
 have c:=Pz (n1:=n1) (n2:=n2) (n3:=n3) (n4:=n4) k n0 0 aj;have b:=PA (n0:=n0) (n2:=n2) (n3:=n3) (n4:=n4) j n1 0 aj;have a:=PB (n0:=n0) (n1:=n1) (n3:=n3) (n4:=n4) i n2 0 aj;have f:=qm h;have d:=qm g;rw[aR] at c b a;refine (ip (fn:=qkw) (e:= .normal) (s:=⟨[],[],[.trash]⟩) rfl rfl (bg ?J)).trans ?Z
 case J=>simp[qo5,qkw,qo4,qo3,qo2,c,b,a,f,d]
 case Z=>simp[ag,results,qkw,ah,am,af]
end
end
section
variable {xs:fq} {c:Nat} {caps:fw} {gh:fB} {p:Int->Bool}
theorem Gt (b:Int) (a:fN) (c:fB):ac pg 88 [gu b a] c=some (I (WI.wrap (WI.wrap (1+b)+a.length)),c):=by rw[ip (fn:=q60) (s:=⟨[(2,I (WI.wrap (WI.wrap (1+b)+a.length)))],[],c⟩) (e:= .ret) rfl rfl (bg (by simp[qef,q60,gu]))];simp[ag,results,q60,ah,am,af,az,PV.one,PV.noG]
theorem PC {a:fq} {c:Nat} {e:fw} {f:fB} {p:Int->Bool} (g:∀x∈a,ac pg c (I x::e) f=some (B (p x),f)) (d:e.all az=true) (n:Sz a.length) :
  ∀k i,i+k=a.length->bm pg qek ⟨[(0,LI a),(1,.fn c e),(7,I a.length),(8,I i)],[],f⟩=
   match (a.drop i).findIdx? p with
   |some j=>fo ⟨[(4,I ((i+j:Nat)))],[],f⟩
   |none=>fg ⟨[],[],f⟩
 |0,i,h=>by
  rw[aM aj];refine (bn (s1:=?J) (bg ?Z)).trans ?Y
  case Z=>simp[q67,show i=a.length by omega];rfl
  case Y=>simp[keep]
 | k+1,i,h=>by
  have b:i<a.length:=aj;have l:a[i]?=some a[i]:=aA b;rw[aJ b,List.findIdx?_cons];cases m:p a[i] with
  |true=>
   refine (cx (s1:=?K) (bg ?V)).trans ?W
   case V=>simp[q67,b,l,lQ d,g a[i] (cD b),m];rfl
   case W=>simp
  | false=>
   refine ay (s1:=?Ja) (bg ?Jb) ?Jc
   case Jb=>simp[q67,b,l,lQ d,g a[i] (cD b),m];rfl
   case Jc=>
    rw[gv aj];refine (PC g d n k (i+1) aj).trans ?_;cases (a.drop (i+1)).findIdx? p<;>simp;omega
theorem Gu (f:∀x∈xs,ac pg c (I x::caps) gh=some (B (p x),gh)) (b:caps.all az=true) (e:Sz xs.length) :
  ac pg 111 [LI xs,.fn c caps] gh=some (I (match xs.findIdx? p with|some j=>(j:Int)|none=> -1),gh):=by
 have a:=PC f b e xs.length 0 aj;simp only[bJ,cX,aR] at a;cases d:xs.findIdx? p with
 |some j=>
  rw[d] at a;refine ak (fn:=q28) (s:=?J) rfl rfl (bg ?Z) ?Y
  case Z=>simp[q9m,q28,a];rfl
  case Y=>simp[ag,results,q28,ah,am,af,az,PV.one,PV.noG]
 |none=>
  rw[d] at a;refine ak (fn:=q28) (s:=?K) rfl rfl (bg ?V) ?W
  case V=>simp[q9m,q28,a,qel];rfl
  case W=>simp[ag,results,q28,ah,am,af,az,PV.one,PV.noG]
theorem tN (h:∀x∈xs,ac pg c (I x::caps) gh=some (B (p x),gh)) (a:caps.all az=true) (f:Sz xs.length) :
  ac pg 86 [LI xs,.fn c caps] gh=some (B (xs.any p),gh):=by
 refine ak (fn:=q63) (s:=?J) rfl rfl (bg ?Z) ?Y
 case Z=>simp[qeg,q63,Gu h a f];rfl
 case Y=>
  have:(decide (0<=(match xs.findIdx? p with|some j=>(j:Int)|none=> -1)))=xs.any p:=by
   cases d:xs.findIdx? p with
   |some j=>
    have:=List.findIdx?_eq_some_iff_getElem.1 d;obtain⟨g,b,_⟩:=this;simp only[Int.natCast_nonneg,decide_true];exact (List.any_eq_true.2 ⟨_,cD g,b⟩).symm
   |none=>
    have:=List.findIdx?_eq_none_iff.1 d;simp only[show decide ((0:Int)<= -1)=false by decide];exact (List.any_eq_false.2 λx e=>by simp[this x e]).symm
  simp[ag,results,q63,ah,am,af,az,PV.one,PV.noG,this]
end
section
variable {A w b:Nat}
theorem Gv (x:Int):WI.wrap x=(x+9223372036854775808)%18446744073709551616-9223372036854775808:=by simp only[IntKind.wrap,IntKind.bits,IntKind.signed];simp;omega
theorem ki (h:A<18446744073709551616):(BitVec.ofInt 64 (A:Int)).toNat=A:=by rw[BitVec.toNat_ofInt];omega
theorem tP {B:Nat} (ha:A<65536) (a:B<65536):jI .i64 A B=((A &&&B:Nat):Int):=by
 have:A &&&B<65536:=Nat.and_lt_two_pow (n:=16) A a;unfold jI;rw[BitVec.toNat_and]
 show WI.wrap (((BitVec.ofInt 64 (A:Int)).toNat &&&(BitVec.ofInt 64 (B:Int)).toNat:Nat):Int)=_
 rw[ki aj,ki aj];exact aq aj aj
theorem tQ {B:Nat} (ha:A<65536) (a:B<65536):iOr .i64 A B=((A |||B:Nat):Int):=by
 have:A |||B<65536:=Nat.or_lt_two_pow (n:=16) ha a
 unfold iOr;rw[BitVec.toNat_or]
 show WI.wrap (((BitVec.ofInt 64 (A:Int)).toNat |||(BitVec.ofInt 64 (B:Int)).toNat:Nat):Int)=_
 rw[ki aj,ki aj];exact aq aj aj
theorem Gw {B:Nat} (ha:A<65536) (a:B<65536):gz .i64 A B=((A ^^^B:Nat):Int):=by
 have:A ^^^B<65536:=Nat.xor_lt_two_pow (n:=16) ha a;unfold gz;rw[BitVec.toNat_xor]
 show WI.wrap (((BitVec.ofInt 64 (A:Int)).toNat ^^^(BitVec.ofInt 64 (B:Int)).toNat:Nat):Int)=_
 rw[ki aj,ki aj];exact aq aj aj
theorem Gx (hw:w<=8):1<=(2:Int)^w/\(2:Int)^w<=256:=by have:∀v:Fin 9,1<=(2:Int)^v.val/\(2:Int)^v.val<=256:=bz;exact this ⟨w,aj⟩
theorem tR {B:Nat} (ha:A<1099511627776):(gz .i64 (A:Int) 1=(B:Int))↔(A/2=B/2/\A≠B):=by
 have f:A ^^^1<1099511627776:=Nat.xor_lt_two_pow (n:=40) ha bz;have e:gz .i64 (A:Int) 1=((A ^^^1:Nat):Int):=by
  unfold gz;rw[BitVec.toNat_xor]
  show WI.wrap (((BitVec.ofInt 64 (A:Int)).toNat ^^^(BitVec.ofInt 64 ((1:Nat):Int)).toNat:Nat):Int)=_
  rw[ki aj,ki aj];exact aq aj aj
 rw[e];have c:(A ^^^1)/2=A/2:=by rw[Nat.xor_div_two];simp
 have d:(A ^^^1)%2=(A+1)%2:=by have h:=Nat.xor_mod_two_pow (a:=A) (b:=1) (n:=1);simp at h;rw[h];have:A%2=0\/A%2=1:=aj;rcases this with c|c<;>rw[c]<;>simp<;>omega
 generalize A ^^^1=X at *;omega
theorem Gy (x:Int) (hw:w<=8):jI .i64 x (2^w-1:Int)=x%(2^w:Int):=by
 have g:(2:Nat)^w<=2^8:=bQ bz hw;have d:1<=(2:Nat)^w:=Nat.one_le_two_pow;have e:(2^w-1:Int)=((2^w-1:Nat):Int):=by rw[Int.natCast_sub d];simp
 unfold jI;rw[BitVec.toNat_and,e]
 show WI.wrap (((BitVec.ofInt 64 x).toNat &&&(BitVec.ofInt 64 ((2^w-1:Nat):Int)).toNat:Nat):Int)=_
 rw[ki aj,Nat.and_two_pow_sub_one_eq_mod,BitVec.toNat_ofInt];have c:(2:Nat)^w ∣ 18446744073709551616:=Nat.pow_dvd_pow (n:=64) 2 aj;have f:(x%18446744073709551616).toNat%2^w<2^w:=Nat.mod_lt _ aj
 show WI.wrap ((((x%((2^64:Nat):Int)).toNat%2^w:Nat)):Int)=_
 rw[show ((2^64:Nat):Int)=18446744073709551616 from rfl,aq aj aj];rw[Int.natCast_emod,Int.toNat_of_nonneg (Int.emod_nonneg _ bz)];have b:((2^w:Nat):Int) ∣ ((18446744073709551616:Nat):Int):=Int.natCast_dvd_natCast.2 c;have a:=Int.emod_emod_of_dvd x b;rw[Int.natCast_pow] at a ⊢;exact a
theorem ot (hw:w<=8):eR .i64 1 (w:Int)=2^w:=by have:∀v:Fin 9,eR .i64 1 (v.val:Int)=2^v.val:=bz;exact this ⟨w,aj⟩
theorem Gz (h:A<256):mS .i64 (A:Int)= -1-A:=by
 have:∀v:Fin 256,mS .i64 (v.val:Int)= -1-v.val:=by decide +kernel
 exact this ⟨A,h⟩
theorem RM (x:Int) (hw:w<=8):(WI.wrap x)%(2^w:Int)=x%(2^w:Int):=by rw[Gv];have:w=0\/w=1\/w=2\/w=3\/w=4\/w=5\/w=6\/w=7\/w=8:=aj;rcases this with rfl|rfl|rfl|rfl|rfl|rfl|rfl|rfl|rfl<;>simp<;>omega
theorem GB (hw:w<=8):WI.wrap (eR .i64 1 (w:Int)-1)=2^w-1:=by rw[ot hw];have:=Gx hw;exact aq aj aj
theorem GC (hw:w<=8) (a:w<=b):eR .i64 (A:Int) (b:Int)%(2^w:Int)=0:=by
 unfold eR;rw[RM _ hw];have:(2:Int)^w ∣ (A:Int)*2^(min (b:Int).toNat 64):=by refine Int.dvd_trans ?_ (Int.dvd_mul_left _ _);exact⟨2^(min (b:Int).toNat 64-w),by rw[<-Int.pow_add];congr 1;simp;omega⟩
 exact Int.emod_eq_zero_of_dvd this
theorem jf (hw:w<=8):(2:Nat)^w<=256:=bQ (n:=2) bz hw
theorem yB (ha:A<256) (a:b<=8):eR .i64 (A:Int) (b:Int)=(A*2^b:Nat):=by
 unfold eR;have c:=jf a;have d:A*2^b<=256*256:=Nat.mul_le_mul aj c;have e:(A:Int)*2^(min (b:Int).toNat IntKind.i64.bits)=((A*2^b:Nat):Int):=by
  have:min (b:Int).toNat IntKind.i64.bits=b:=by
   show min (b:Int).toNat 64=b
   simp;omega
  rw[this];simp
 rw[e];exact aq aj aj
theorem qX (A b:Nat) (ha:A<2^64):kg .i64 (A:Int) (b:Int)=(A/2^b:Nat):=by
 unfold kg;rw[show min (b:Int).toNat IntKind.i64.bits=min b 64 by simp[IntKind.bits]];by_cases h:b<=64
 ·rw[Nat.min_eq_left h,Int.fdiv_eq_ediv_of_nonneg _ (Int.pow_nonneg bz)]
  simp
 ·rw[Nat.min_eq_right aj,Int.fdiv_eq_ediv_of_nonneg _ (Int.pow_nonneg bz)]
  have a:A<2^b:=aO ha (bQ bz aj);rw[Nat.div_eq_of_lt a];have e:(2:Int)^64=((2^64:Nat):Int):=bh;rw[e,<-Int.natCast_ediv,Nat.div_eq_of_lt ha]
end
section
attribute [local congr] bu
attribute [local simp] au
theorem mT (x:Int×Int):andV x= .agg [I x.1,I x.2]:=rfl
def gn (l:List ((Int×Int)×PV)):List (PV×PV):=l.map λe=>(andV e.1,e.2)
def jg:List ((Int×Int)×PV)->Int×Int->PV->List ((Int×Int)×PV)
 |[],k,v=>[(k,v)]
 |(a,u)::l,k,v=>if k=a then (k,v)::l else (a,u)::jg l k v
def kj:List ((Int×Int)×PV)->Int×Int->Option PV
 |[],_=>none
 |(a,u)::l,k=>if k=a then some u else kj l k
theorem qY (x y:Int×Int):dB 2 (andV x) (andV y)=some (decide (x=y)):=by
 obtain⟨a,b⟩:=x;obtain⟨c,d⟩:=y;by_cases e:a=c
 ·by_cases f:b=d<;>simp[dB,andV,fj,jB,e,f,List.replicate]
 ·simp[dB,andV,fj,jB,e,List.replicate]
theorem GF (l:List ((Int×Int)×PV)) (k:Int×Int) (v:PV):ef 2 (gn l) (andV k) v=some (gn (jg l k v)):=by
 induction l with
 |nil=>rfl
 | cons x l b=>
  obtain⟨a,u⟩:=x;by_cases h:k=a
  ·simp[gn,jg,ef,qY,h]
  ·have:ef 2 (l.map λe=>(andV e.1,e.2)) (andV k) v=some (gn (jg l k v)):=b
   simp[gn,jg,ef,qY,h,this]
theorem GG (l:List ((Int×Int)×PV)) (k:Int×Int):eD 2 (gn l) (andV k)=some (kj l k):=by
 induction l with
 |nil=>rfl
 |cons x l b=>
  obtain⟨a,u⟩:=x;have:eD 2 (l.map λe=>(andV e.1,e.2)) (andV k)=some (kj l k):=b;by_cases h:k=a
  ·simp[gn,kj,eD,qY,h]
  ·simp[gn,kj,eD,qY,h,this]
theorem yC {l:List ((Int×Int)×PV)} {k:Int×Int} {v:PV} (h:k∉l.map (·.1)):jg l k v=l++[(k,v)]:=by
 induction l with
 |nil=>rfl
 |cons x l b=>
  obtain⟨a,u⟩:=x;simp only[bS,List.mem_cons,not_or] at h;rw[jg,if_neg h.1,b h.2];rfl
theorem RP {l:List ((Int×Int)×PV)} {k:Int×Int} {v:PV} (h:k∈l.map (·.1)):(jg l k v).length=l.length:=by
 induction l with
 |nil=>simp at h
 | cons x l b=>
  obtain⟨a,u⟩:=x;rw[jg];split
  ·rfl
  ·rename_i c
   simp only[bS,List.mem_cons] at h;simp[b (h.resolve_left c)]
theorem OG {l:List ((Int×Int)×PV)} {k:Int×Int} {v:PV} (x:Int×Int):x∈(jg l k v).map (·.1)↔x=k\/x∈l.map (·.1):=by
 induction l with
 |nil=>simp[jg]
 | cons y l b=>
  obtain⟨a,u⟩:=y;rw[jg];split
  ·rename_i c;subst c;simp
  ·simp only[bS,List.mem_cons,b]
   constructor
   ·rintro (h|h|h)
    ·exact .inr (.inl h)
    ·exact .inl h
    ·exact .inr (.inr h)
   ·rintro (h|h|h)
    ·exact .inr (.inl h)
    ·exact .inl h
    ·exact .inr (.inr h)
def l6:fN->List ((Int×Int)×PV)->List ((Int×Int)×PV)
 |[],m=>m
 |x::l,m=>l6 l (jg m x (B true))
theorem PD:∀(l:fN) (m:List ((Int×Int)×PV)),(l6 l m).length<=m.length+l.length/\((l6 l m).length=m.length+l.length↔(l.Nodup/\∀x∈l,x∉m.map (·.1)))
 |[],m=>by simp[l6]
 | x ::l,m=>by
  obtain⟨i,g⟩:=PD l (jg m x (B true));rw[l6];by_cases c:x∈m.map (·.1)
  ·have e:=RP (v:=B true) c
   rw[e] at i g;refine⟨by simp;omega,?_⟩;constructor
   ·intro h;simp at h;omega
   ·intro h;exact absurd c (h.2 x bh)
  ·have e:(jg m x (B true)).length=m.length+1:=by rw[yC c];simp
   rw[e] at i g;refine⟨by simp;omega,?_⟩;rw[show (x::l).length=l.length+1 from rfl,show m.length+(l.length+1)=m.length+1+l.length by omega,g,List.nodup_cons];constructor
   ·rintro⟨f,d⟩
    refine⟨⟨λa=>?_,f⟩,λy b=>?_⟩
    ·exact d x a ((OG x).2 (.inl rfl))
    ·rcases List.mem_cons.1 b with rfl|b
     ·exact c
     ·exact λa=>d y b ((OG y).2 (.inr a))
   ·rintro⟨⟨f,d⟩,j⟩
    refine⟨d,λy b a=>?_⟩;rcases (OG y).1 a with rfl|a
    ·exact f b
    ·exact j y (by simp[b]) a
def kX (a:Int) (i:Nat) (x:Int×Int):Prop:=x.2<=x.1\/x.1<2\/2*(1+a+i)<=x.2\/x.1/2=x.2/2
instance (a:Int) (i:Nat) (x:Int×Int):Decidable (kX a i x):=inferInstanceAs (Decidable (_\/_))
def okA (a:Int):Nat->fN->Bool
 |_,[]=>true
 |i,x::l=>if kX a i x then false else okA a (i+1) l
def cq (b:Int) (a:fN):Int:=
 if ¬(0<=b/\b<=1000) then 3 else if 1000000<a.length then 2 else if okA b 0 a then (if a.Nodup then 0 else 6) else 4
theorem Oa {a:Int} (h:0<=a):Int.tdiv a 2=a/2:=Int.tdiv_eq_ediv_of_nonneg h
section
variable {ins:Int} {ands:fN} {gh:fB}
theorem RQ (w:0<=ins/\ins<=1000) (v:ands.length<=1000000) {i:Nat} (k:i<ands.length) (m:List ((Int×Int)×PV)) (hr: -9223372036854775808<=ands[i].1/\ands[i].1<=9223372036854775807) (j: -9223372036854775808<=ands[i].2/\ands[i].2<=9223372036854775807) :
  evK pg qk6 fiK ⟨[(1,(ec)),(3,(.mp gh.length)),(20,(.sl false 2 (ands.map andV))),(21,(.int .i64 ands.length)),(22,(.int .i64 i))],[[(.int .i64 ins),(.sl false 2 (ands.map andV))]],(gh++[.map (gn m)])⟩=
   if kX ins i ands[i] then fo ⟨[(2,I 4)],[],gh++[.map (gn m)]⟩
   else fg ⟨[(1,ec),(3,.mp gh.length),(20,.sl false 2 (ands.map andV)),(21,I ands.length),(22,I ((i+1:Nat):Int))],[[I ins,.sl false 2 (ands.map andV)]],gh++[.map (gn (jg m ands[i] (B true)))]⟩:=by
 have t:WI.wrap ((i:Int)+1)=((i+1:Nat):Int):=by rw[aq aj aj];omega
 have e:(ands.map andV)[i]?=some (.agg [I ands[i].1,I ands[i].2]):=by simp[aA k,andV]
 generalize u:ands[i]=x at *;obtain⟨a,b⟩:=x;simp only at hr j e;have p:WI.wrap (WI.wrap (1+ins)+(i:Int))=1+ins+i:=by rw[aq (n:=1+ins) aj aj,aq aj aj]
 have c:(i:Int)<(ands.length:Int):=aj;by_cases f:b<=a
 ·rw[if_pos (show kX ins i (a,b) from .inl f)]
  simp[qk6,c,e,f,-List.getElem?_map]
 by_cases g:a<2
 ·rw[if_pos (show kX ins i (a,b) from .inr (.inl g))]
  simp[qk6,c,e,f,g,-List.getElem?_map]
 have r:WI.wrap (Int.tdiv a 2)=a/2:=by rw[Oa aj,aq aj aj]
 have o:WI.wrap (Int.tdiv b 2)=b/2:=by rw[Oa aj,aq aj aj]
 by_cases s:2*(1+ins+i)<=b
 ·rw[if_pos (show kX ins i (a,b) from .inr (.inr (.inl s)))]
  have d:1+ins+(i:Int)<=b/2:=aj;simp[qk6,c,e,f,g,p,o,d,-List.getElem?_map]
 have d:¬1+ins+(i:Int)<=b/2:=aj;by_cases l:a/2=b/2
 ·rw[if_pos (show kX ins i (a,b) from .inr (.inr (.inr l)))]
  simp[qk6,c,e,f,g,p,r,o,d,l,-List.getElem?_map]
 ·rw[if_neg (show ¬kX ins i (a,b) by rintro (h|h|h|h)<;>contradiction)]
  have q:=GF m (a,b) (B true);rw[mT] at q;simp[qk6,c,e,f,g,p,r,o,d,l,t,q,-List.getElem?_map]
def RA (a:fN):Prop:=∀x∈a,(-9223372036854775808<=x.1/\x.1<=9223372036854775807)/\(-9223372036854775808<=x.2/\x.2<=9223372036854775807)
def GH (c:fB) (b:Int) (a:fN) (m:List ((Int×Int)×PV)) (i:Nat):St:=
 ⟨[(1,ec),(3,.mp c.length),(20,.sl false 2 (a.map andV)),(21,I a.length),(22,I (i:Int))],[[I b,.sl false 2 (a.map andV)]],c++[.map (gn m)]⟩
attribute [local simp] GH
theorem PE (j:0<=ins/\ins<=1000) (f:ands.length<=1000000) (hr:RA ands):∀k i m,i+k=ands.length->
  (okA ins i (ands.drop i)=true->bm pg qly (GH gh ins ands m i)=fg ⟨[(1,ec),(3,.mp gh.length)],[[I ins,.sl false 2 (ands.map andV)]],gh++[.map (gn (l6 (ands.drop i) m))]⟩)/\
  (okA ins i (ands.drop i)=false->∃d,bm pg qly (GH gh ins ands m i)=fo ⟨[(2,I 4)],[],gh++[.map (gn d)]⟩)
 |0,i,m,h=>by
  rw[aM aj];refine⟨λ_=>?_,λh=>by simp[okA] at h⟩;have a:¬(i:Int)<(ands.length:Int):=aj;refine (bn (s1:=?J) (bg ?Z)).trans ?Y
  case Z=>simp[qk6,a];rfl
  case Y=>rfl
 | k+1,i,m,h=>by
  have a:i<ands.length:=aj;have e:=hr ands[i] (cD a);have c:=RQ (gh:=gh) j f a m e.1 e.2;rw[aJ a,okA];by_cases b:kX ins i ands[i]
  ·rw[if_pos b] at c ⊢
   exact⟨λh=>(by cases h),λ_=>⟨m,cx (bg c)⟩⟩
  ·rw[if_neg b] at c ⊢
   obtain⟨n,l⟩:=PE j f hr k (i+1) (jg m ands[i] (B true)) aj;refine⟨λh=>?_,λh=>?_⟩
   ·exact ay (bg c) (n h)
   ·obtain⟨d,g⟩:=l h
    exact⟨d,ay (bg c) g⟩
theorem PF (hr:RA ands):ac pg 6 [gu ins ands] gh=some (I (cq ins ands),gh):=by
 by_cases i:ins<0
 ·refine ak (fn:=qjw) (s:=?J) rfl rfl (bg ?Z) ?Y
  case Z=>simp[qka,qjw,i];rfl
  case Y=>
   have e:cq ins ands=3:=by unfold cq;rw[if_pos aj]
   simp[ag,results,qjw,ah,am,af,e]
 by_cases l:1000<ins
 ·refine ak (fn:=qjw) (s:=?K) rfl rfl (bg ?V) ?W
  case V=>simp[qka,qjw,i,l];rfl
  case W=>
   have e:cq ins ands=3:=by unfold cq;rw[if_pos aj]
   simp[ag,results,qjw,ah,am,af,e]
 have k:0<=ins/\ins<=1000:=aj;by_cases p:1000000<ands.length
 ·have d:(1000000:Int)<(ands.length:Int):=aj
  refine ak (fn:=qjw) (s:=?Ja) rfl rfl (bg ?Jb) ?Jc
  case Jb=>simp[qka,qjw,i,l,d];rfl
  case Jc=>simp[ag,results,qjw,ah,am,af,cq,k,p]
 have d:¬(1000000:Int)<(ands.length:Int):=aj;obtain⟨o,n⟩:=PE (gh:=gh) k aj hr ands.length 0 [] aj;rw[bJ] at o n;unfold GH at o n;have t:gn []=[]:=rfl;rw[t] at o n;simp only[aR] at o n;cases a:okA ins 0 ands with
 |false=>
  obtain⟨w,g⟩:=n a;refine ak (fn:=qjw) (s:=?Jd) rfl rfl (bg ?Je) ?Jf
  case Je=>simp[qka,qjw,i,l,d,g];rfl
  case Jf=>simp[ag,results,qjw,ah,am,af,cq,k,p,a]
 | true=>
  have g:=o a;obtain⟨v,q⟩:=PD ands [];simp only[cF,cX,bU,List.not_mem_nil,not_false_eq_true,implies_true,and_true] at v q;have j:(gn (l6 ands [])).length=(l6 ands []).length:=by simp[gn]
  by_cases f:ands.Nodup
  ·have b:=q.2 f
   have u:=bg (c:=qkn) (s:=⟨[(1,(ec)),(3,(.mp gh.length))],[[(.int .i64 ins),(.sl false 2 (ands.map andV))]],(gh++[.map (gn (l6 ands []))])⟩) (r:=fo ⟨[(2,I 0)],[],gh++[.map (gn (l6 ands []))]⟩) (pg:=pg)
    (by simp[qkn,j,b])
   refine ak (fn:=qjw) (s:=?Jg) rfl rfl (bg ?Jh) ?Ji
   case Jh=>simp[qka,qjw,i,l,d,g,u];rfl
   case Ji=>simp[ag,results,qjw,ah,am,af,cq,k,p,a,f]
  ·have b:(l6 ands []).length<ands.length:=by
    rcases Nat.lt_or_ge (l6 ands []).length ands.length with h|h
    ·exact h
    ·exact absurd (q.1 aj) f
   have u:=bg (c:=qkn) (s:=⟨[(1,(ec)),(3,(.mp gh.length))],[[(.int .i64 ins),(.sl false 2 (ands.map andV))]],(gh++[.map (gn (l6 ands []))])⟩) (r:=fo ⟨[(2,I 6)],[],gh++[.map (gn (l6 ands []))]⟩) (pg:=pg)
    (by simp[qkn,j,b])
   refine ak (fn:=qjw) (s:=?Jj) rfl rfl (bg ?Jk) ?Jl
   case Jk=>simp[qka,qjw,i,l,d,g,u];rfl
   case Jl=>simp[ag,results,qjw,ah,am,af,cq,k,p,a,f]
theorem dX (h:cq ins ands=0):(0<=ins/\ins<=1000)/\ands.length<=1000000/\okA ins 0 ands=true/\ands.Nodup:=by
 unfold cq at h
 repeat' split at h
 all_goals first|(cases h;done)|skip
 rename_i c d b a;exact⟨Classical.not_not.1 c,aj,b,a⟩
def fJ (b:Int) (a:fN):Int:=1+b+a.length
theorem GJ (b:0<=ins/\ins<=1000) (a:ands.length<=1000001):ac pg 88 [gu ins ands] gh=some (I (fJ ins ands),gh):=by rw[Gt,aq (n:=1+ins) aj aj,aq aj aj];rfl
def fF (b:Int) (a:fN) (n:Int):Bool:=decide (0<=n/\n<2*fJ b a)
theorem RR (d:0<=ins/\ins<=1000) (g:ands.length<=1000000) (n:Int) {b:Nat} (e:gh[b]?=some (.cells [I ins,.sl false 2 (ands.map andV)])):ac pg 85 [I n,fc b 0] gh=some (B (!fF ins ands n),gh):=by
 have i:fJ ins ands=1+ins+ands.length:=rfl;by_cases c:n<0
 ·refine ak (fn:=qkb) (s:=?J) rfl rfl (bg ?Z) ?Y
  case Z=>simp[qlz,qkb,c];rfl
  case Y=>
   have:fF ins ands n=false:=by unfold fF;rw[decide_eq_false_iff_not];omega
   simp[ag,results,qkb,ah,am,af,this]
 ·have f:WI.wrap (2*fJ ins ands)=2*fJ ins ands:=aq aj aj
  have a:=GJ (gh:=gh) d (show ands.length<=1000001 by omega);unfold gu at a;refine ak (fn:=qkb) (s:=?K) rfl rfl (bg ?V) ?W
  case V=>simp[qlz,qkb,c,e,a,f];rfl
  case W=>
   have:(!fF ins ands n)=decide (2*fJ ins ands<=n):=by
    unfold fF;by_cases h:2*fJ ins ands<=n
    ·rw[aG h,aF aj];rfl
    ·rw[aF h,aG aj];rfl
   simp[ag,results,qkb,ah,am,af,this]
theorem PG (c:0<=ins/\ins<=1000) (b:ands.length<=1000000) {lits:fq} (a:Sz lits.length):ac pg 47 [gu ins ands,LI lits] gh=some (B (lits.all (fF ins ands)),gh):=by
 have d:∀x∈lits,ac pg 85 (I x::[fc gh.length 0]) (gh++[.cells [I ins,.sl false 2 (ands.map andV)]])=some (B (!fF ins ands x),gh++[.cells [I ins,.sl false 2 (ands.map andV)]]):=
  λx _=>RR c b x bh
 have:=tN (caps:=[fc gh.length 0]) d bh a;refine ak (fn:=qkr) (s:=?J) rfl rfl (bg ?Z) ?Y
 case Z=>simp[qnt,qkr,this];rfl
 case Y=>
  have e:(!lits.any λx=> !fF ins ands x)=lits.all (fF ins ands):=by rw[List.not_any_eq_all_not];simp
  simp[ag,results,qkr,ah,am,af,<-e]
end
end
section
attribute [local congr] bu
attribute [local simp] au
def clV (a:Int) (cls:ft):PV:= .agg [I a,cr (cls.map λl=>LI l)]
@[simp] theorem clV_a (v : Int) (a : ft) : az (clV v a) = true := (rfl)
@[simp] theorem clV_d (v : Int) (a : ft) : degr (clV v a) = clV v a := (rfl)
@[simp] theorem clV_e (v : Int) (a : ft) : aw (clV v a) = clV v a := (rfl)
@[simp] theorem clV_c (v : Int) (a : ft) : (clV v a).cells = [I v, cr (a.map λl => LI l)] := (rfl)
theorem noGs_ints (l:fq):eg (l.map I)=true:=by
 induction l with
 |nil=>rfl
 |cons x l a=>simp[a]
def dJ (x a:Int):Int:=
 if Int.tmod x 2=1 then WI.wrap (-WI.wrap (WI.wrap (Int.tdiv x 2)+a)) else WI.wrap (WI.wrap (Int.tdiv x 2)+a)
theorem ov (x a:Int) (b:fB):ac pg 90 [I x,I a] b=some (I (dJ x a),b):=by
 by_cases h:Int.tmod x 2=1
 ·refine ak (fn:=q23) (s:=?J) rfl rfl (bg ?Z) ?Y
  case Z=>simp[q9a,q23,h];rfl
  case Y=>simp[ag,results,q23,ah,am,af,dJ,h]
 ·refine ak (fn:=q23) (s:=?K) rfl rfl (bg ?V) ?W
  case V=>simp[q9a,q23,h];rfl
  case W=>simp[ag,results,q23,ah,am,af,dJ,h]
theorem PH (cls:ft):gR (cls.map λl=>FI1 l)=cls.map λl=>LI l:=N8 (λl=>by rw[RH,x9]) cls
theorem OH (l:ft):eg (l.map λl=>FI1 l)=true:=by
 induction l with
 |nil=>rfl
 |cons x l a=>simp[a,noGs_ints]
def mkC (b:fB) (a:Int) (cls:ft):fB:=b++[.cells [I a,dz (cls.map λl=>FI1 l)]]
theorem Ob {gh:fB} {vars:Int} {cls:ft} {c:fq} (d:cls.length<=5000000):ac pg 91 [fc gh.length 0,FI1 c] (mkC gh vars cls)=some (.tup [],mkC gh vars (cls++[c])):=by
 have a:(cls.length+1)*24<=maxBytes:=by have:=MB;omega
 have b:bm pg q9b ⟨[(0,fc gh.length 0),(1,FI1 c)],[],mkC gh vars cls⟩=fg ⟨[],[],mkC gh vars (cls++[c])⟩:=by refine bg ?_;simp[q9b,mkC,a]
 rw[ip (fn:=q5r) rfl rfl b];simp[ag,results,q5r,ah,af]
def nOf (b a:Int) (i:Nat):Int:=WI.wrap (WI.wrap (WI.wrap (1+b)+(i:Int))+a)
def cg (x:Int):Int:=WI.wrap (-x)
def kZ (b a:Int) (i:Nat) (x:Int×Int):ft:=
 [[cg (nOf b a i),dJ x.1 a],[cg (nOf b a i),dJ x.2 a],[nOf b a i,cg (dJ x.1 a),cg (dJ x.2 a)]]
def ji (b a:Int):Nat->fN->ft
 |_,[]=>[]
 |i,x::l=>kZ b a i x++ji b a (i+1) l
theorem re (b a:Int):∀(i:Nat) (l:fN),(ji b a i l).length=3*l.length
 |_,[]=>rfl
 |i,x::l=>by rw[ji,aQ,re b a (i+1) l];simp[kZ];omega
section
variable {ins:Int} {ands:fN} {gh:fB}
def Hc (e:fB) (d:Int) (a:fN) (c b:Int) (cls:ft) (i:Nat):St:=
 ⟨[(0,fc e.length 0),(2,I c),(4,ec),(12,.sl false 2 (a.map andV)),(13,I a.length),(14,I (i:Int))],[[I d,.sl false 2 (a.map andV)]],mkC e b cls⟩
attribute [local simp] Hc
theorem RS {d vars:Int} {cls:ft} {i:Nat} (l:i<ands.length) (t:ands.length<=1000000) (s:cls.length<=4000000) :
  bm pg q5o (Hc gh ins ands d vars cls i)=some (.normal,Hc gh ins ands d vars (cls++kZ ins d i ands[i]) (i+1)):=by
 have p:WI.wrap ((i:Int)+1)=((i+1:Nat):Int):=by rw[aq aj aj];omega
 have m:(ands.map andV)[i]?=some (.agg [I ands[i].1,I ands[i].2]):=by simp[aA l,andV]
 generalize r:ands[i]=x at *;obtain⟨a,b⟩:=x;have f:(i:Int)<(ands.length:Int):=aj;have k:=ov a d (mkC gh vars cls);have j:=ov b d (mkC gh vars cls);have h:=Ob (gh:=gh) (vars:=vars) (cls:=cls) (c:=[cg (nOf ins d i),dJ a d]) aj;have g:=Ob (gh:=gh) (vars:=vars) (cls:=cls++[[cg (nOf ins d i),dJ a d]]) (c:=[cg (nOf ins d i),dJ b d]) (by simp;omega);have e:=Ob (gh:=gh) (vars:=vars) (cls:=(cls++[[cg (nOf ins d i),dJ a d]])++[[cg (nOf ins d i),dJ b d]]) (c:=[nOf ins d i,cg (dJ a d),cg (dJ b d)]) (by simp;omega)
 have o:((cls++[[cg (nOf ins d i),dJ a d]])++[[cg (nOf ins d i),dJ b d]])++[[nOf ins d i,cg (dJ a d),cg (dJ b d)]]=cls++kZ ins d i (a,b):=by simp[kZ]
 rw[o] at e;simp only at m;generalize n:nOf ins d i=N,v:dJ a d=A,u:dJ b d=q at *;unfold nOf at n;simp only[FI1,bS,bU,cg] at h g e;unfold Hc;generalize mkC gh vars (cls++kZ ins d i (a,b))=w,mkC gh vars (cls++[[WI.wrap (-N),A]]++[[WI.wrap (-N),q]])=y,mkC gh vars (cls++[[WI.wrap (-N),A]])=z,mkC gh vars cls=C at *;refine bg ?_;simp[q5o,f,m,k,j,n,h,g,e,p,-List.getElem?_map]
theorem PI {more vars:Int} (b:ands.length<=1000000):∀k i (cls:ft),i+k=ands.length->cls.length+3*k<=4000000->
  bm pg qe6 (Hc gh ins ands more vars cls i)=fg ⟨[],[],mkC gh vars (cls++ji ins more i (ands.drop i))⟩
 |0,i,cls,h,_=>by
  rw[aM aj];have a:¬(i:Int)<(ands.length:Int):=aj;refine (bn (s1:=?J) (bg ?Z)).trans ?Y
  case Z=>simp[q5o,a];rfl
  case Y=>simp[keep,ji]
 |k+1,i,cls,h,c=>by have a:i<ands.length:=aj;refine ay (RS a b aj) ?_;rw[aJ a,ji,<-aT];exact PI b k (i+1) _ aj (by simp[kZ];omega)
theorem RU {more vars:Int} (a:ands.length<=1000000):ac pg 53 [fc gh.length 0,gu ins ands,I more] (mkC gh vars [])=some (.tup [],mkC gh vars (ji ins more 0 ands)):=by
 have h:=PI (gh:=gh) (ins:=ins) (more:=more) (vars:=vars) a ands.length 0 [] aj (by simp;omega);rw[bJ,bF] at h;unfold Hc at h;simp only[aR] at h;generalize mkC gh vars (ji ins more 0 ands)=c,mkC gh vars []=d at *;have b:bm pg q97 ⟨[(0,fc gh.length 0),(1,gu ins ands),(2,I more)],[],d⟩=fg ⟨[],[],c⟩:=by refine bg ?_;simp[q97,h,gu]
 rw[ip (fn:=q5p) rfl rfl b];simp[ag,results,q5p,ah,af]
theorem RV {r more vars:Int} {cls:ft} (a:r≠1) (d:r≠0) (b:cls.length<=5000000):ac pg 54 [fc gh.length 0,I r,I more] (mkC gh vars cls)=some (.tup [],mkC gh vars (cls++[[dJ r more]])):=by
 have a:bm pg q3t ⟨[(0,fc gh.length 0),(1,I r),(2,I more)],[],mkC gh vars cls⟩=fg ⟨[],[],mkC gh vars (cls++[[dJ r more]])⟩:=by refine bg ?_;have hn:=ov r more (mkC gh vars cls);have ha:=Ob (gh:=gh) (vars:=vars) (cls:=cls) (c:=[dJ r more]) b;simp only[FI1,bS,bU] at ha;simp[q3t,q38,a,d,hn,ha]
 rw[ip (fn:=q38) rfl rfl a];simp[ag,results,q38,ah,af]
def km (a n:Int):Bool:=decide (n=0\/a<n\/n<WI.wrap (-a))
theorem Hd {n a:Int} {b:Nat} (e:gh[b]?=some (.cells [I a])):ac pg 113 [I n,fc b 0] gh=some (B (km a n),gh):=by
 by_cases c:n=0
 ·refine ak (fn:=q1a) (s:=?J) rfl rfl (bg ?Z) ?Y
  case Z=>simp[q5t,q1a,c];rfl
  case Y=>simp[ag,results,q1a,ah,am,af,km,c]
 by_cases d:a<n
 ·refine ak (fn:=q1a) (s:=?K) rfl rfl (bg ?V) ?W
  case V=>simp[q5t,q1a,c,e,d];rfl
  case W=>simp[ag,results,q1a,ah,am,af,km,d]
 ·refine ak (fn:=q1a) (s:=?Ja) rfl rfl (bg ?Jb) ?Jc
  case Jb=>simp[q5t,q1a,c,e,d];rfl
  case Jc=>simp[ag,results,q1a,ah,am,af,km,c,d]
def ko (a:Int) (l:fq):Int:=if 200<l.length then 2 else if l.any (km a) then 5 else 0
theorem He {vars:Int} {l:fq} (c:Sz l.length):ac pg 94 [I vars,LI l] gh=some (I (ko vars l),gh):=by
 by_cases h:200<l.length
 ·have b:(200:Int)<(l.length:Int):=aj
  refine ak (fn:=q19) (s:=?J) rfl rfl (bg ?Z) ?Y
  case Z=>simp[q5s,q19,b];rfl
  case Y=>simp[ag,results,q19,ah,am,af,ko,h]
 ·have b:¬(200:Int)<(l.length:Int):=aj
  have d:∀x∈l,ac pg 113 (I x::[fc gh.length 0]) (gh++[.cells [I vars]])=some (B (km vars x),gh++[.cells [I vars]]):=λx _=>Hd bh
  have:=tN (caps:=[fc gh.length 0]) d bh c;cases a:l.any (km vars) with
  |true=>
   rw[a] at this;refine ak (fn:=q19) (s:=?K) rfl rfl (bg ?V) ?W
   case V=>simp[q5s,q19,b,this];rfl
   case W=>simp[ag,results,q19,ah,am,af,ko,h,a]
  |false=>
   rw[a] at this;refine ak (fn:=q19) (s:=?Ja) rfl rfl (bg ?Jb) ?Jc
   case Jb=>simp[q5s,q19,b,this];rfl
   case Jc=>simp[ag,results,q19,ah,am,af,ko,h,a]
def ym (a:Int):ft->Int
 |[]=>0
 |l::r=>if ko a l=0 then ym a r else ko a l
def iJ (a:Int) (cls:ft):Int:=if a<0\/200000<a then 3 else if 800000<cls.length then 2 else ym a cls
def SL (cls:ft):Prop:=∀l∈cls,Sz l.length
theorem yN {vars:Int} {cls:ft} (f:SL cls) (g:cls.length<=800000):∀k i,i+k=cls.length->
  bm pg qe7 ⟨[(1,ec),(19,cr (cls.map λl=>LI l)),(20,I cls.length),(21,I (i:Int))],[[I vars,cr (cls.map λl=>LI l)]],gh⟩=
   if ym vars (cls.drop i)=0 then fg ⟨[],[],gh⟩ else fo ⟨[(2,I (ym vars (cls.drop i)))],[],gh⟩
 |0,i,h=>by
  rw[aM aj,ym,if_pos rfl];have a:¬(i:Int)<(cls.length:Int):=aj;refine (bn (s1:=?J) (bg ?Z)).trans ?Y
  case Z=>simp[q5q,a];rfl
  case Y=>simp[keep]
 | k+1,i,h=>by
  have a:i<cls.length:=aj;have b:(i:Int)<(cls.length:Int):=aj;have j:WI.wrap ((i:Int)+1)=((i+1:Nat):Int):=by rw[aq aj aj];omega
  have e:(cls.map λl=>LI l)[i]?=some (LI cls[i]):=by simp[aA a]
  have d:=He (gh:=gh) (vars:=vars) (f _ (cD a));rw[aJ a,ym];by_cases c:ko vars cls[i]=0
  ·rw[if_pos c]
   rw[c] at d;refine ay (s1:=⟨[(1,ec),(19,cr (cls.map λl=>LI l)),(20,I cls.length),(21,I ((i+1:Nat):Int))],[[I vars,cr (cls.map λl=>LI l)]],gh⟩) (bg ?K) (yN f g k (i+1) aj)
   case K=>simp[q5q,b,e,d,j,-List.getElem?_map]
  ·rw[if_neg c,if_neg c]
   refine cx (bg ?V)
   case V=>simp[q5q,b,e,d,c,-List.getElem?_map]
theorem Hf {vars:Int} {cls:ft} (k:SL cls):ac pg 59 [clV vars cls] gh=some (I (iJ vars cls),gh):=by
 by_cases d:vars<0
 ·refine ak (fn:=qjx) (s:=?J) rfl rfl (bg ?Z) ?Y
  case Z=>simp[q39,qjx,d];rfl
  case Y=>simp[ag,results,qjx,ah,am,af,iJ,d]
 by_cases f:200000<vars
 ·refine ak (fn:=qjx) (s:=?K) rfl rfl (bg ?V) ?W
  case V=>simp[q39,qjx,d,f];rfl
  case W=>simp[ag,results,qjx,ah,am,af,iJ,f]
 have a:¬(vars<0\/200000<vars):=aj;by_cases j:800000<cls.length
 ·have g:(800000:Int)<(cls.length:Int):=aj
  refine ak (fn:=qjx) (s:=?Ja) rfl rfl (bg ?Jb) ?Jc
  case Jb=>simp[q39,qjx,d,f,g];rfl
  case Jc=>simp[ag,results,qjx,ah,am,af,iJ,a,j]
 have g:¬(800000:Int)<(cls.length:Int):=aj;have b:=yN (gh:=gh) (vars:=vars) k aj cls.length 0 aj;rw[bJ] at b;simp only[aR] at b;generalize i:(cls.map λl=>LI l)=L at *;have e:L.length=cls.length:=by rw[<-i];simp
 by_cases h:ym vars cls=0
 ·rw[if_pos h] at b
  have m:=bg (c:=q99) (s:=⟨[],[],gh⟩) (r:=fo ⟨[(2,I 0)],[],gh⟩) (pg:=pg) (by simp[q99]<;>rfl);refine ak (fn:=qjx) (s:=?Jd) rfl rfl (bg ?Je) ?Jf
  case Je=>simp[q39,qjx,d,f,e,g,b,m,i];rfl
  case Jf=>simp[ag,results,qjx,ah,am,af,iJ,a,j,h]
 ·rw[if_neg h] at b
  refine ak (fn:=qjx) (s:=?Jg) rfl rfl (bg ?Jh) ?Ji
  case Jh=>simp[q39,qjx,d,f,e,g,b,i];rfl
  case Ji=>simp[ag,results,qjx,ah,am,af,iJ,a,j]
theorem Hg {vars:Int} {cls:ft} (d:∀l∈cls,l.length<=3):∃(n:Int) (c:ft) (e:Int),ac pg 55 [.agg [I vars,.fr 1 (cls.map λl=>FI1 l)]] gh=some (.tup [.agg [I n,.fr 1 (c.map λl=>FI1 l)],I e],gh)/\c.length<=800000/\∀l∈c,l.length<=3:=by
 have h:=Hf (gh:=gh) (vars:=vars) (cls:=cls) (λl f=>by have:=d l f;simp only[Sz];omega);have hn:=OH cls;have b:=PH cls;unfold clV at h;by_cases a:iJ vars cls=0
 ·have g:cls.length<=800000:=by
   unfold iJ at a
   repeat' split at a
   all_goals first|(cases a;done)|omega
  refine⟨vars,cls,0,?_,g,d⟩;rw[a] at h;generalize (cls.map λl=>FI1 l)=L,(cls.map λl=>LI l)=i at *;refine ak (fn:=q22) (s:=?J) rfl rfl (bg ?Z) ?Y
  case Z=>simp[q98,q22,b,h];rfl
  case Y=>simp[ag,results,q22,ah,am,St.cellsAt,af,hn]
 ·refine⟨0,[],iJ vars cls,?_,bh,bh⟩
  generalize (cls.map λl=>FI1 l)=L,(cls.map λl=>LI l)=i at *;refine ak (fn:=q22) (s:=?K) rfl rfl (bg ?V) ?W
  case V=>simp[q98,q22,b,h,a];rfl
  case W=>simp[ag,results,q22,ah,am,St.cellsAt,af]
theorem yO (b a:Int):∀(i:Nat) (l:fN),∀x∈ji b a i l,x.length<=3
 |_,[]=>λl h=>by cases h
 | i,x::r=>λl h=>by
  rw[ji] at h;rcases cE.1 h with h|h
  ·simp only[kZ,List.mem_cons,List.not_mem_nil,or_false] at h
   rcases h with rfl|rfl|rfl<;>simp
  ·exact yO b a (i+1) r l h
theorem RW (hr:RA ands) {r:Int} (u:r≠0) (t:r≠1):∃(n:Int) (c:ft) (e:Int),ac pg 16 [gu ins ands,LI [r]] gh=some (.tup [.agg [I n,.fr 1 (c.map λl=>FI1 l)],I e],gh)/\c.length<=800000/\∀l∈c,l.length<=3:=by
 have b:=PF (ins:=ins) (gh:=gh) hr;unfold gu at b;by_cases d:cq ins ands=0
 ·obtain⟨y,k,w,x⟩:=dX d
  have a:=PG (gh:=gh) (lits:=[r]) y k bh;unfold gu at a;rw[d] at b;cases o:[r].all (fF ins ands) with
  |false=>
   rw[o] at a;refine⟨0,[],5,?_,bh,bh⟩;refine ak (fn:=qk1) (s:=?Z) rfl rfl (bg ?Y) ?K
   case Y=>simp only[LI,bS,bU] at a;simp[qkp,qk1,gu,b,a];rfl
   case K=>simp[ag,results,qk1,ah,am,St.cellsAt,af]
  | true=>
   rw[o] at a;generalize v:WI.wrap (ins+(ands.length:Int))=vars;have j:=RU (gh:=gh) (ins:=ins) (ands:=ands) (more:=0) (vars:=vars) k;have z:=re ins 0 0 ands;have B:=RV (gh:=gh) (more:=0) (vars:=vars) (cls:=ji ins 0 0 ands) t u aj;have f:∀l∈ji ins 0 0 ands++[[dJ r 0]],l.length<=3:=λl h=>by
    rcases cE.1 h with h|h
    ·exact yO ins 0 0 ands l h
    ·simp at h;subst h;simp
   generalize ji ins 0 0 ands++[[dJ r 0]]=C at *;generalize ji ins 0 0 ands=A at *;obtain⟨n,c,e,p,i⟩:=Hg (gh:=mkC gh vars C) (vars:=vars) f;refine⟨n,c,e,?_,i⟩;have hn:=OH c;generalize (c.map λl=>FI1 l)=q at *;have m:bm pg qlx ⟨[(4,eK),(7,fc gh.length 0)],[[I ins,.sl false 2 (ands.map andV)],[I 0,dz []]],mkC gh vars C⟩=fo ⟨[(4,eK),(5,I e)],[[I ins,.sl false 2 (ands.map andV)],[I n,.fr 1 q]],mkC gh vars C⟩:=by refine bg ?_;simp only[mkC] at p;simp[qlx,mkC,p]
   have g:bm pg qns ⟨[(4,eK),(7,fc gh.length 0),(33,LI [r]),(34,I 1),(35,I 0)],[[I ins,.sl false 2 (ands.map andV)],[I 0,dz []]],mkC gh vars A⟩=fg ⟨[(4,eK),(7,fc gh.length 0)],[[I ins,.sl false 2 (ands.map andV)],[I 0,dz []]],mkC gh vars C⟩:=by
    refine ay (s1:=⟨[(4,eK),(7,fc gh.length 0),(33,LI [r]),(34,I 1),(35,I 1)],[[I ins,.sl false 2 (ands.map andV)],[I 0,dz []]],mkC gh vars C⟩) (bg ?J) ((bn (s1:=?V) (bg ?W)).trans ?Ja)
    case J=>
     have D:WI.wrap 1=1:=bz;generalize mkC gh vars C=E,mkC gh vars A=F at *;simp[qlw,B,D]
    case W=>simp[qlw];rfl
    case Ja=>simp[keep,bj]
   unfold gu at j;simp only[mkC,bU] at j g m;refine ak (fn:=qk1) (s:=⟨[(4,eK),(5,I e)],[[I ins,.sl false 2 (ands.map andV)],[I n,.fr 1 q]],mkC gh vars C⟩) rfl rfl (bg ?Jb) ?Jc
   case Jb=>
    simp only[LI,bS,bU] at a g;simp[qkp,qk1,gu,b,a,v,j,g,m,mkC]
   case Jc=>simp[ag,results,qk1,ah,am,St.cellsAt,af,mkC,hn]
 ·refine⟨0,[],cq ins ands,?_,bh,bh⟩
  refine ak (fn:=qk1) (s:=?Jd) rfl rfl (bg ?J) ?Je
  case J=>simp[qkp,qk1,gu,b,d];rfl
  case Je=>simp[ag,results,qk1,ah,am,St.cellsAt,af]
end
end
section
attribute [local congr] bu
attribute [local simp] au
def atA:fN->Int×Int->Option Nat
 |[],_=>none
 |y::l,x=>if x=y then some 0 else (atA l x).map (· +1)
theorem atA_none {l:fN} {x:Int×Int}:atA l x=none↔x∉l:=by
 induction l with
 |nil=>simp[atA]
 | cons y l a=>
  rw[atA];split
  ·rename_i h;subst h;simp
  ·rename_i h
   simp[a,h]
theorem GK {l:fN} {x:Int×Int} {i:Nat} (h:atA l x=some i):i<l.length/\l[i]?=some x:=by
 induction l generalizing i with
 |nil=>simp[atA] at h
 | cons y l a=>
  rw[atA] at h;split at h
  ·rename_i b;cases h;subst b;simp
  ·simp only[aE] at h
   obtain⟨j,c,rfl⟩:=h;obtain⟨e,d⟩:=a c;exact⟨by simp;omega,by simpa using d⟩
def byL (a:Int):Nat->fN->List ((Int×Int)×PV)
 |_,[]=>[]
 |i,x::l=>(x,I (2*(1+a+i)))::byL a (i+1) l
theorem tS (a:Int):∀(i:Nat) (l:fN),(byL a i l).map (·.1)=l
 |_,[]=>rfl
 |i,x::l=>by simp[byL,tS a (i+1) l]
theorem yD (a:Int) (x:Int×Int):∀(i:Nat) (l:fN),kj (byL a i l) x=(atA l x).map λj=>I (2*(1+a+((i+j:Nat):Int)))
 |_,[]=>rfl
 | i,y::l=>by
  rw[byL,kj,atA];split
  ·simp
  ·rw[yD a x (i+1) l]
   cases atA l x with
   |none=>rfl
   |some j=>simp;omega
theorem yE (l:fN):eg (l.map andV)=true:=by
 induction l with
 |nil=>rfl
 |cons x l a=>simp[andV,a]
section
variable {gh:fB} {x y z:GObj}
theorem GL:(gh++[x,y])[gh.length]?=some x:=bh
theorem GN:(gh++[x,y])[gh.length+1]?=some y:=bh
theorem GO:(gh++[x,y]).set gh.length z=gh++[z,y]:=bh
end
def mkG (c:fB) (b:Int) (a:fN) (m:List ((Int×Int)×PV)):fB:=c++[.map (gn m),.cells [I b,.sl true 2 (a.map andV),.mp c.length]]
theorem yF {m:List ((Int×Int)×PV)} {a b:Int} {v:PV}:ef 2 (gn m) (.agg [I a,I b]) v=some (gn (jg m (a,b) v)):=GF m (a,b) v
theorem yG {m:List ((Int×Int)×PV)} {a b:Int}:eD 2 (gn m) (.agg [I a,I b])=some (kj m (a,b)):=GG m (a,b)
section
variable {ins:Int} {ands:fN} {gh:fB}
def ou (c:fB) (b:Int) (a:fN) (m:List ((Int×Int)×PV)) (i:Nat):St:=
 ⟨[(1,ec),(3,fc (c.length+1) 0),(16,.sl false 2 (a.map andV)),(17,I a.length),(18,I (i:Int))],[[I b,.sl false 2 (a.map andV)]],mkG c b a m⟩
attribute [local simp] ou
theorem GP (k:0<=ins/\ins<=1000) (j:ands.length<=1000000) {i:Nat} (d:i<ands.length) (m:List ((Int×Int)×PV)) :
  evK pg q5y fiK ⟨[(1,(ec)),(3,(fc (gh.length+1) 0)),(16,(.sl false 2 (ands.map andV))),(17,(.int .i64 ands.length)),(18,(.int .i64 i))],[[(.int .i64 ins),(.sl false 2 (ands.map andV))]],(mkG gh ins ands m)⟩=some (.normal,ou gh ins ands (jg m ands[i] (I (2*(1+ins+i)))) (i+1)):=by
 have g:WI.wrap ((i:Int)+1)=((i+1:Nat):Int):=by rw[aq aj aj];omega
 have e:(ands.map andV)[i]?=some (.agg [I ands[i].1,I ands[i].2]):=by simp[aA d,andV]
 generalize h:ands[i]=x at *;obtain⟨a,b⟩:=x;simp only at e;have f:WI.wrap (2*WI.wrap (WI.wrap (1+ins)+(i:Int)))=2*(1+ins+i):=by rw[aq (n:=1+ins) aj aj,aq (n:=1+ins+i) aj aj,aq aj aj]
 have c:(i:Int)<(ands.length:Int):=aj;simp[q5y,c,e,f,g,mkG,ou,yF,-List.getElem?_map,GL,GN,GO]
theorem yH (g:0<=ins/\ins<=1000) (f:ands.length<=1000000) (c:ands.Nodup):∀k i,i+k=ands.length->
  bm pg qed (ou gh ins ands (byL ins 0 (ands.take i)) i)=fg ⟨[(3,fc (gh.length+1) 0)],[],mkG gh ins ands (byL ins 0 ands)⟩
 |0,i,h=>by
  rw[bK aj];have a:¬(i:Int)<(ands.length:Int):=aj;refine (bn (s1:=?J) (bg ?Z)).trans ?Y
  case Z=>simp[q5y,a];rfl
  case Y=>rfl
 | k +1,i,h=>by
  have a:i<ands.length:=aj;refine ay (bg (GP g f a _)) ?_;have d:ands[i]∉(byL ins 0 (ands.take i)).map (·.1):=by
   rw[tS];intro p;obtain⟨j,q,m⟩:=List.getElem_of_mem p;rw[List.getElem_take] at m;have e:j<i:=by simp at q;omega
   have:=(List.nodup_iff_pairwise_ne.1 c)
   have:=List.pairwise_iff_getElem.1 this j i aj a e;exact this m
  have b:jg (byL ins 0 (ands.take i)) ands[i] (I (2*(1+ins+i)))=byL ins 0 (ands.take (i+1)):=by
   rw[yC d,List.take_add_one,aA a];have:∀(j:Nat) (l:fN) (x:Int×Int),byL ins j l++[(x,I (2*(1+ins+((j+l.length:Nat):Int))))]=byL ins j (l++[x]):=by
    intro j l
    induction l generalizing j with
    |nil=>intro x;simp[byL]
    |cons y l o=>
     intro x;have:=o (j+1) x;rw[show j+1+l.length=j+(y::l).length by simp;omega] at this;simp only[byL,bH,this]
   have n:=this 0 (ands.take i) ands[i];rw[cR,Nat.min_eq_left aj,cX] at n;simpa using n
  rw[b];exact yH g f c k (i+1) aj
theorem GQ {o:Bool} {a:fw} (h:a.length*16<=maxBytes):ac pg 87 [.sl o 2 a] gh=some (.sl true 2 a,gh):=by have:ac pg 87 [.sl o 2 a] gh=lx 2 16 [.sl o 2 a] gh:=rfl;rw[this,lx,if_pos ⟨rfl,h⟩]
theorem GR (g:0<=ins/\ins<=1000) (f:ands.length<=1000000) (b:ands.Nodup):ac pg 48 [gu ins ands] gh=some (fc (gh.length+1) 0,mkG gh ins ands (byL ins 0 ands)):=by
 have e:=MB;have h:ac pg 87 [.sl false 2 (ands.map andV)] []=some (.sl true 2 (ands.map andV),[]):=GQ (by simp;omega);have a:=yH (gh:=gh) g f b ands.length 0 aj;unfold ou mkG at a;have i:gn (byL ins 0 (ands.take 0))=[]:=rfl;rw[i] at a;simp only[aR] at a;have d:=bg (c:=q9i) (s:=⟨[(3,(fc (gh.length+1) 0))],[],(mkG gh ins ands (byL ins 0 ands))⟩) (r:=fo ⟨[(2,fc (gh.length+1) 0)],[],mkG gh ins ands (byL ins 0 ands)⟩) (pg:=pg) (by simp[q9i]<;>rfl);unfold mkG at d
 refine ak (fn:=q5z) (s:=⟨[(2,fc (gh.length+1) 0)],[],mkG gh ins ands (byL ins 0 ands)⟩) rfl rfl (bg ?J) ?Z
 case J=>simp[qee,q5z,h,yE,a,d,mkG]
 case Z=>simp[ag,results,q5z,ah,am,af]
def e8 (d:Int) (c:fN) (a b:Int):fN×Int:=
 if a=0\/(a/2=b/2/\a≠b) then (c,0) else if a=1\/a=b then (c,b)
 else match atA c (a,b) with
  |some i=>(c,2*(1+d+i))
  |none=>(c++[(a,b)],2*fJ d c)
def fy (d:Int) (c:fN) (a b:Int):fN×Int:=if b<a then e8 d c b a else e8 d c a b
theorem qZ {a b:Int} (ha:0<=a/\a<2002002) (c:0<=b):(gz .i64 a 1=b)↔(a/2=b/2/\a≠b):=by
 obtain⟨A,rfl⟩:∃n:Nat,a=n:=⟨a.toNat,aj⟩
 obtain⟨d,rfl⟩:∃n:Nat,b=n:=⟨b.toNat,aj⟩
 rw[tR aj];omega
theorem PQ (s:0<=ins/\ins<=1000) (v:ands.length<=1000000) {a b:Int} (ha:0<=a/\a<2002002) (p:0<=b) :
  ∃r,bm pg q1n ⟨[(0,fc (gh.length+1) 0),(1,I a),(2,I b)],[],mkG gh ins ands (byL ins 0 ands)⟩=fo ⟨[(6,I (e8 ins ands a b).2)],[],mkG gh ins (e8 ins ands a b).1 r⟩:=by
 by_cases g:a=0
 ·refine⟨byL ins 0 ands,bg ?_⟩
  simp[q1n,g,e8]
 by_cases d:gz .i64 a 1=b
 ·refine⟨byL ins 0 ands,bg ?_⟩
  have e:e8 ins ands a b=(ands,0):=by unfold e8;rw[if_pos (.inr ((qZ ha p).1 d))]
  rw[e];simp[q1n,g,d]
 have o:¬(a/2=b/2/\a≠b):=λh=>d ((qZ ha p).2 h)
 have u:e8 ins ands a b=if a=1\/a=b then (ands,b) else match atA ands (a,b) with
  |some i=>(ands,2*(1+ins+i))
  |none=>(ands++[(a,b)],2*fJ ins ands):=by unfold e8;rw[if_neg (by rintro (h|h);exact g h;exact o h)]
 rw[u];by_cases f:a=1
 ·refine⟨byL ins 0 ands,bg ?_⟩
  rw[if_pos (.inl f)];subst f;simp[q1n,d]
 by_cases l:a=b
 ·refine⟨byL ins 0 ands,bg ?_⟩
  rw[if_pos (.inr l)];subst l;simp[q1n,g,d,f]
 rw[if_neg (by rintro (h|h);exact f h;exact l h)];have c:kj (byL ins 0 ands) (a,b)=(atA ands (a,b)).map λj=>I (2*(1+ins+((0+j:Nat):Int))):=yD ins (a,b) 0 ands
 cases k:atA ands (a,b) with
 |some i=>
  rw[k] at c;simp only[cK,cX] at c;refine⟨byL ins 0 ands,bg ?_⟩;simp[q1n,g,d,f,l,mkG,yG,c]
 | none=>
  rw[k] at c;simp only[Option.map_none] at c;have q:=GJ (gh:=mkG gh ins ands (byL ins 0 ands)) s (show ands.length<=1000001 by omega);unfold gu mkG at q;have t:WI.wrap (2*fJ ins ands)=2*fJ ins ands:=by unfold fJ;exact aq aj aj
  have n:(ands.length+1)*16<=maxBytes:=by have:=MB;omega
  refine⟨jg (byL ins 0 ands) (a,b) (I (2*fJ ins ands)),bg ?_⟩;simp[q1n,g,d,f,l,mkG,yG,c,q,t,n,au,yF,andV]
theorem Se (f:0<=ins/\ins<=1000) (e:ands.length<=1000000) {a b:Int} (ha:0<=a/\a<2002002) (g:0<=b/\b<2002002) :
  ∃c,ac pg 49 [fc (gh.length+1) 0,I a,I b] (mkG gh ins ands (byL ins 0 ands))=some (I (fy ins ands a b).2,mkG gh ins (fy ins ands a b).1 c):=by
 by_cases h:b<a
 ·obtain⟨c,d⟩:=PQ (gh:=gh) f e g ha.1
  refine⟨c,ak (fn:=q27) (s:=⟨[(6,I (fy ins ands a b).2)],[],mkG gh ins (fy ins ands a b).1 c⟩) rfl rfl (bg ?J) ?Z⟩
  case J=>simp[q9j,q27,h,d,fy,h]
  case Z=>simp[ag,results,q27,ah,am,af]
 ·obtain⟨c,d⟩:=PQ (gh:=gh) f e ha g.1
  refine⟨c,ak (fn:=q27) (s:=⟨[(6,I (fy ins ands a b).2)],[],mkG gh ins (fy ins ands a b).1 c⟩) rfl rfl (bg ?Y) ?K⟩
  case Y=>simp[q9j,q27,h,d,fy,h]
  case K=>simp[ag,results,q27,ah,am,af]
def j3 (d:Int) (c:fN) (a b:Int):(Int×fN)×Int×Int:=
 if cq d c≠0 then ((0,[]),0,cq d c)
 else if ¬(fF d c a=true/\fF d c b=true) then ((0,[]),0,5)
 else if 1000000<(fy d c a b).1.length then ((0,[]),0,2)
 else ((d,(fy d c a b).1),(fy d c a b).2,0)
theorem GS (b:0<=ins/\ins<=1000) (a:ands.length<=1000000) {n:Int} (h:fF ins ands n=true):0<=n/\n<2002002:=by unfold fF fJ at h;rw[aH] at h;omega
theorem Sf (hr:RA ands) (a b:Int) :
  ac pg 1 [gu ins ands,I a,I b] gh=some (.tup [.agg [I (j3 ins ands a b).1.1,.fr 2 ((j3 ins ands a b).1.2.map andV)],I (j3 ins ands a b).2.1,I (j3 ins ands a b).2.2],gh):=by
 have j:=PF (ins:=ins) (gh:=gh) hr;unfold gu at j;by_cases d:cq ins ands=0
 ·obtain⟨g,f,p,l⟩:=dX d
  have i:ac pg 47 [.agg [I ins,.sl false 2 (ands.map andV)],cr [I a,I b]] gh=some (B (fF ins ands a&&fF ins ands b),gh):=by have h:=PG (ands:=ands) (gh:=gh) g f (lits:=[a,b]) bh;rw[show [a,b].all (fF ins ands)=(fF ins ands a&&fF ins ands b) by simp] at h;exact h
  cases c:(fF ins ands a&&fF ins ands b) with
  | false=>
   have e:j3 ins ands a b=((0,[]),0,5):=by unfold j3;rw[if_neg (λh=>h d),if_pos];intro h;rw[h.1,h.2] at c;cases c
   rw[e];rw[c] at i;refine ak (fn:=qjz) (s:=?J) rfl rfl (bg ?Z) ?Y
   case Z=>simp[qkm,qjz,gu,j,d,i];rfl
   case Y=>simp[ag,results,qjz,ah,am,af,St.cellsAt,gu]
  | true=>
   rw[c] at i;simp only[aS] at c;have k:=GR (gh:=gh) g f l;unfold gu at k;obtain⟨q,n⟩:=Se (gh:=gh) g f (GS g f c.1) (GS g f c.2);unfold mkG at k n;by_cases o:1000000<(fy ins ands a b).1.length
   ·have e:j3 ins ands a b=((0,[]),0,2):=by
     unfold j3;rw[if_neg (λh=>h d),if_neg (λh=>h c),if_pos o]
    rw[e];refine ak (fn:=qjz) (s:=?K) rfl rfl (bg ?V) ?W
    case V=>simp[qkm,qjz,gu,j,d,i,k,n,mkG,show (1000000:Int)<((fy ins ands a b).1.length:Int) by omega];rfl
    case W=>simp[ag,results,qjz,ah,am,af,St.cellsAt,gu]
   ·have e:j3 ins ands a b=((ins,(fy ins ands a b).1),(fy ins ands a b).2,0):=by
     unfold j3;rw[if_neg (λh=>h d),if_neg (λh=>h c),if_neg o]
    rw[e];refine ak (fn:=qjz) (s:=?Ja) rfl rfl (bg ?Jb) ?Jc
    case Jb=>simp[qkm,qjz,gu,j,d,i,k,n,mkG,show ¬(1000000:Int)<((fy ins ands a b).1.length:Int) by omega];rfl
    case Jc=>simp[ag,results,qjz,ah,am,af,St.cellsAt,gu,yE]
 ·have e:j3 ins ands a b=((0,[]),0,cq ins ands):=by unfold j3;rw[if_pos d]
  rw[e];refine ak (fn:=qjz) (s:=?Jd) rfl rfl (bg ?Je) ?Jf
  case Je=>simp[qkm,qjz,gu,j,d];rfl
  case Jf=>simp[ag,results,qjz,ah,am,af,St.cellsAt,gu]
end
end
section
attribute [local congr] bu
attribute [local simp] au
abbrev LB (v:fS):PV:= cr (v.map B)
def db (v:fS) (n:Int):Bool:=(v.getD (n/2).toNat false) !=decide (n%2=1)
def dg:fS->fN->fS
 |v,[]=>v
 |v,x::l=>dg (v++[db v x.1&&db v x.2]) l
theorem tT:∀(v:fS) (l:fN),(dg v l).length=v.length+l.length
 |v,[]=>rfl
 |v,x::l=>by rw[dg,tT];simp;omega
@[simp] theorem noG_ep (e : PV) (o : Nat) : PV.noG (.ep e o) = e.noG := rfl
section
variable {gh:fB}
def GT (a:fB) (v:fS):fB:=a++[.cells [dz (v.map B)]]
def GU (b:fB) (a:fN) (v:fS) (i:Nat):St:=
 ⟨[(5,fc b.length 0),(6,.fn 89 [fc b.length 0]),(14,.sl false 2 (a.map andV)),(15,I a.length),(16,I (i:Int))],[],GT b v⟩
attribute [local simp] GU
def Oe (x:Int×Int) (n:Nat):Prop:=(0<=x.1/\x.1<=9223372036854775807/\(x.1/2).toNat<n)/\(0<=x.2/\x.2<=9223372036854775807/\(x.2/2).toNat<n)
theorem yI {a:Int}:∀{i:Nat} {l:fN} {j:Nat} (_:okA a i l=true) (b:j<l.length),¬kX a (i+j) l[j]
 |i,x::l,0,h,_=>by
  rw[okA] at h;split at h
  ·cases h
  ·simpa
 | i,x::l,j+1,h,b=>by
  rw[okA] at h;split at h
  ·cases h
  ·have:=yI (j:=j) h (by simpa using b)
   rw[show i+1+j=i+(j+1) by omega] at this;simpa using this
theorem GV {a:Int} (c:0<=a/\a<=1000) {x:Int×Int} {j n:Nat} (h:¬kX a j x) (b:j<=1000000) (hn:(n:Int)=1+a+j):Oe x n:=by unfold kX at h;simp only[not_or] at h;unfold Oe;omega
def GW (v:fS) (a:fq) (b:fS) (i:Nat) (c:fB):St:=
 ⟨[(9,LB v),(10,dz (b.map B)),(32,LI a),(33,I a.length),(34,I (i:Int))],[],c⟩
attribute [local simp] GW
end
end
section
attribute [local congr] bu
def fP:fN:=[(4,1),(5,1),(6,2),(7,2),(8,2),(9,2),(10,2),(11,2),(12,2),(13,2),(14,2),(15,2),(16,3),(17,3),(18,3),(19,4),(20,5),(21,6),(22,7),(23,7)]
theorem jK (a:fB):ac pg 61 [] a=some (.mp a.length,a++[.map (b8 fP)]):=by
 refine ak (fn:=q89) (s:=⟨[(0,.mp a.length)],[],a++[.map (b8 fP)]⟩) rfl rfl (bg ?J) ?Z
 case J=>
  simp[qgt,q89,ef,eS,dB];rfl
 case Z=>simp[ag,results,q89,ah,am,af]
def cn (k:Int):Option Int:=
 if k<4 then none else if k<6 then some 1 else if k<16 then some 2 else if k<19 then some 3 else if k=19 then some 4 else if k=20 then some 5
 else if k=21 then some 6 else if k<24 then some 7 else none
theorem yJ (k:Int):gx fP k=cn k:=by
 by_cases h:4<=k/\k<24
 ·obtain⟨n,rfl⟩:∃n:Fin 20,k=4+(n.val:Int):=⟨⟨(k-4).toNat,aj⟩,by simp;omega⟩
  revert n;decide
 ·have:∀l:fN,(∀x∈l,4<=x.1/\x.1<24)->gx l k=none:=by
   intro l
   induction l with
   |nil=>intro;rfl
   |cons x l c=>
    intro b;have f:=b x bh;have e:=c λy d=>b y (by simp[d])
    obtain⟨a,u⟩:=x;rw[gx,if_neg,e];rintro rfl;exact h f
  rw[this _ bz,cn];split
  ·rfl
  ·repeat rw[if_neg aj]
def ar (k:Int):Int:=
 if k<4 then 0 else if k<6 then 1 else if k<19 then 2 else if k=19 then 3 else if k=20 then 2 else if k<24 then 1 else 0
theorem iq (k:Int) (a:fB):ac pg 63 [I k] a=some (I (ar k),a):=by
 have h:ac pg 63 [I k] a=some (I (let n:=(cn k).getD 0;if n=0 then 0 else if n=1\/n=6\/n=7 then 1 else if n=4 then 3 else 2),a):=by
  have b:=yJ k;cases g:cn k with
  |none=>
   rw[g] at b;refine ak (fn:=qk) (s:=?J) rfl rfl (bg ?Z) ?Y
   case Z=>simp[q3p,qk,jK,b];rfl
   case Y=>simp[ag,results,qk,ah,am,af]
  | some n=>
   rw[g] at b;by_cases d:n=0
   ·refine ak (fn:=qk) (s:=?K) rfl rfl (bg ?V) ?W
    case V=>simp[q3p,qk,jK,b,d];rfl
    case W=>simp[ag,results,qk,ah,am,af,d]
   by_cases e:n=1\/n=6\/n=7
   ·refine ak (fn:=qk) (s:=⟨[(2,I 1)],[],a++[.map (b8 fP)]⟩) rfl rfl (bg ?Ja) ?Jb
    case Ja=>
     have:=bg (c:=q32) (s:=⟨[(5,(.int .i64 n)),(8,(.bool true))],[],(a++[.map (b8 fP)])⟩) (r:=fo ⟨[(2,I 1)],[],a++[.map (b8 fP)]⟩) (pg:=pg) (by simp[q32]);rcases e with rfl|rfl|rfl<;>simp[q3p,qk,jK,b,this]
    case Jb=>simp[ag,results,qk,ah,am,af,d,e]
   ·by_cases f:n=4
    ·refine ak (fn:=qk) (s:=⟨[(2,I 3)],[],a++[.map (b8 fP)]⟩) rfl rfl (bg ?Jc) ?Jd
     case Jc=>
      subst f;have:=bg (c:=q32) (s:=⟨[(5,(.int .i64 4)),(8,(.bool false))],[],(a++[.map (b8 fP)])⟩) (r:=fo ⟨[(2,I 3)],[],a++[.map (b8 fP)]⟩) (pg:=pg) (by simp[q32]);simp[q3p,qk,jK,b,this]
     case Jd=>simp[ag,results,qk,ah,am,af,d,f]
    ·simp only[not_or] at e
     refine ak (fn:=qk) (s:=⟨[(2,I 2)],[],a++[.map (b8 fP)]⟩) rfl rfl (bg ?Je) ?Jf
     case Je=>
      have:=bg (c:=q32) (s:=⟨[(5,(.int .i64 n)),(8,(.bool false))],[],(a++[.map (b8 fP)])⟩) (r:=fg ⟨[(12,B false)],[],a++[.map (b8 fP)]⟩) (pg:=pg) (by simp[q32,f]);have i:=bg (c:=qcz) (s:=⟨[(12,(.bool false))],[],(a++[.map (b8 fP)])⟩) (r:=fo ⟨[(2,I 2)],[],a++[.map (b8 fP)]⟩) (pg:=pg) (by simp[qcz]);simp[q3p,qk,jK,b,d,e,this,i]
     case Jf=>simp[ag,results,qk,ah,am,af,d,e,f]
 rw[h]
 congr 3
 simp only[cn,ar]
 repeat' split
 all_goals first|rfl|omega|simp_all
theorem kY (w:Int) (a:fB):ac pg 62 [I w] a=some (B (decide (1<=w/\w<=8)),a):=by
 by_cases h:1<=w
 ·refine ak (fn:=q31) (s:=?J) rfl rfl (bg ?Z) ?Y
  case Z=>simp[qcy,q31,h];rfl
  case Y=>simp[ag,results,q31,ah,am,af,h]
 ·refine ak (fn:=q31) (s:=?K) rfl rfl (bg ?V) ?W
  case V=>simp[qcy,q31,h];rfl
  case W=>simp[ag,results,q31,ah,am,af,h]
def b9 (s a n b c d:Int):Bool:=
 if n≠0/\s≠6 then false
 else if s=1 then b=a
 else if s=2 then b=a/\c=a
 else if s=3 then b=c/\a=1
 else if s=4 then b=1/\c=a/\d=a
 else if s=5 then WI.wrap (b+c)=a
 else if s=6 then 0<=n/\n<=WI.wrap (b-a)
 else b<=a
theorem yK (s a n b c e:Int) (f:fB):ac pg 64 [I s,I a,I n,.agg [I b,I c,I e]] f=some (B (b9 s a n b c e),f):=by
 have h:evK pg q18 fiK ⟨[(0,(.int .i64 s)),(1,(.int .i64 a)),(2,(.int .i64 n)),(3,(.agg [(.int .i64 b),(.int .i64 c),(.int .i64 e)]))],[],f⟩=fo ⟨[(8,B (b9 s a n b c e))],[],f⟩:=by
  by_cases hn:n=0
  ·by_cases l:s=1
   ·simp[q18,qz,b9,hn,l]
   by_cases k:s=2
   ·by_cases h:b=a<;>simp[q18,qz,b9,hn,k,h]
   by_cases j:s=3
   ·by_cases h:b=c<;>simp[q18,qz,b9,hn,j,h]
   by_cases i:s=4
   ·by_cases h:b=1<;>by_cases m:c=a<;>simp[q18,qz,b9,hn,i,h,m]
   by_cases g:s=5
   ·simp[q18,qz,b9,hn,g]
   by_cases d:s=6
   ·simp[q18,qz,b9,hn,d]
   simp[q18,qz,b9,hn,l,k,j,i,g,d]
  ·by_cases d:s=6
   ·by_cases h:0<=n<;>simp[q18,qz,b9,hn,d,h]
   ·simp[q18,qz,b9,hn,d]
 refine ak (fn:=qz) rfl rfl (bg h) ?J;simp[ag,results,qz,ah,am,af]
def wOk (k i w:Int):Prop:=if i<ar k then 1<=w/\w<=8 else w=0
instance (k i w:Int):Decidable (wOk k i w):=inferInstanceAs (Decidable (if i<ar k then 1<=w/\w<=8 else w=0))
theorem tU (k a n s f e d i w:Int) (l:fB) (g:(i=0/\w=f)\/(i=1/\w=e)\/(i=2/\w=d)) :
  evK pg q1x fiK ⟨[(0,(.int .i64 k)),(1,(.int .i64 a)),(2,(.int .i64 n)),(7,(ec)),(9,(.int .i64 s)),(24,(.agg [(.int .i64 f),(.int .i64 e),(.int .i64 d)])),(25,(.int .i64 i))],[[(.int .i64 f),(.int .i64 e),(.int .i64 d)]],l⟩=if wOk k i w then fg ⟨[(0,I k),(1,I a),(2,I n),(7,ec),(9,I s),(24,.agg [I f,I e,I d]),(25,I (i+1))],[[I f,I e,I d]],l⟩
   else fo ⟨[(8,I 3)],[],l⟩:=by
 have hw:(WI.wrap (i+1))=i+1:=aq aj aj;by_cases c:i<ar k
 ·have b:=Int.not_le.2 c
  by_cases j:1<=w
  ·by_cases h:w<=8
   ·rcases g with ⟨rfl,rfl⟩|⟨rfl,rfl⟩|⟨rfl,rfl⟩<;>simp[q1x,iq,kY,c,b,wOk,j,h]<;>exact hw
   ·rcases g with ⟨rfl,rfl⟩|⟨rfl,rfl⟩|⟨rfl,rfl⟩<;>simp[q1x,iq,kY,c,wOk,j,h]
  ·rcases g with ⟨rfl,rfl⟩|⟨rfl,rfl⟩|⟨rfl,rfl⟩<;>simp[q1x,iq,kY,c,wOk,j]
 ·have b:=Int.not_lt.1 c
  by_cases h:w=0
  ·rcases g with ⟨rfl,rfl⟩|⟨rfl,rfl⟩|⟨rfl,rfl⟩<;>simp[q1x,iq,c,b,wOk,h]<;>exact hw
  ·rcases g with ⟨rfl,rfl⟩|⟨rfl,rfl⟩|⟨rfl,rfl⟩<;>simp[q1x,iq,c,b,wOk,h]
theorem GX (k a n s d c b:Int) (e:fB) :
  bm pg qgs ⟨[(0,I k),(1,I a),(2,I n),(7,ec),(9,I s),(24,.agg [I d,I c,I b]),(25,I 0)],[[I d,I c,I b]],e⟩=
   if wOk k 0 d/\wOk k 1 c/\wOk k 2 b then fg ⟨[(1,I a),(2,I n),(7,ec),(9,I s)],[[I d,I c,I b]],e⟩ else fo ⟨[(8,I 3)],[],e⟩:=by
 have m:=tU k a n s d c b 0 d e bh;have l:=tU k a n s d c b 1 c e bh;have j:=tU k a n s d c b 2 b e bh;by_cases i:wOk k 0 d
 ·rw[if_pos i] at m
  refine ay (bg m) ?_;by_cases g:wOk k 1 c
  ·rw[if_pos g] at l
   refine ay (bg l) ?_;by_cases f:wOk k 2 b
   ·rw[if_pos f] at j
    refine ay (bg j) ?_;rw[if_pos ⟨i,g,f⟩];refine (bn (s1:=?J) (bg ?Z)).trans ?Y
    case Z=>simp[q1x];rfl
    case Y=>simp[keep]
   ·rw[if_neg f] at j
    rw[if_neg (λh=>f h.2.2)];exact cx (bg j)
  ·rw[if_neg g] at l
   rw[if_neg (λh=>g h.2.1)];exact cx (bg l)
 ·rw[if_neg i] at m
  rw[if_neg (λh=>i h.1)];exact cx (bg m)
def ir (k a n d c b:Int):Int:=
 match cn k with
 |none=>7
 |some s=>if ¬(1<=a/\a<=8) then 3 else if ¬(wOk k 0 d/\wOk k 1 c/\wOk k 2 b) then 3 else if b9 s a n d c b then 0 else 1
theorem GY (k a n f d c:Int) (g:fB):ac pg 22 [I k,I a,I n,.agg [I f,I d,I c]] g=some (I (ir k a n f d c),g):=by
 have b:=yJ k;simp only[ir];cases o:cn k with
 |none=>
  rw[o] at b;refine ak (fn:=qj) (s:=?J) rfl rfl (bg ?Z) ?Y
  case Z=>simp[q3o,qj,jK,b];rfl
  case Y=>simp[ag,results,qj,ah,am,af]
 | some s=>
  rw[o] at b;by_cases hw:1<=a/\a<=8
  ·have i:=GX k a n s f d c (g++[.map (b8 fP)])
   simp only[hw,not_true,if_false,and_self];by_cases j:wOk k 0 f/\wOk k 1 d/\wOk k 2 c
   ·rw[if_pos j] at i
    simp only[j,not_true,if_false,and_self];have p:∀e m,evK pg q88 fiK ⟨[(1,(.int .i64 a)),(2,(.int .i64 n)),(7,(ec)),(9,(.int .i64 s))],[[(.int .i64 f),(.int .i64 d),(.int .i64 c)]],(g++[.map (b8 fP)])⟩=some (e,m)->_:=λe m h=>bg h
    by_cases l:b9 s a n f d c
    ·have:=p .ret ⟨[(8,I 0)],[],g++[.map (b8 fP)]⟩ (by simp[q88,yK,l])
     refine ak (fn:=qj) (s:=?K) rfl rfl (bg ?V) ?W
     case V=>simp[q3o,qj,jK,b,kY,hw,i,this];rfl
     case W=>simp[ag,results,qj,ah,am,af,l]
    ·have:=p .ret ⟨[(8,I 1)],[],g++[.map (b8 fP)]⟩ (by simp[q88,yK,l])
     refine ak (fn:=qj) (s:=?Ja) rfl rfl (bg ?Jb) ?Jc
     case Jb=>simp[q3o,qj,jK,b,kY,hw,i,this];rfl
     case Jc=>simp[ag,results,qj,ah,am,af,l]
   ·rw[if_neg j] at i
    refine ak (fn:=qj) (s:=?Jd) rfl rfl (bg ?Je) ?Jf
    case Je=>simp[q3o,qj,jK,b,kY,hw,i];rfl
    case Jf=>simp[ag,results,qj,ah,am,af,j]
  ·refine ak (fn:=qj) (s:=?Jg) rfl rfl (bg ?Jh) ?Ji
   case Jh=>simp[q3o,qj,jK,b,kY,hw];rfl
   case Ji=>simp[ag,results,qj,ah,am,af,hw]
end
section
attribute [local congr] bu
attribute [local simp] au
theorem fe (n a b:Int) (c:fB):ac pg 50 [I n,I a,I b] c=some (B (decide (a<=n/\n<=b)),c):=by
 by_cases h:a<=n
 ·refine ak (fn:=q2i) (s:=?J) rfl rfl (bg ?Z) ?Y
  case Z=>simp[qay,q2i,h];rfl
  case Y=>simp[ag,results,q2i,ah,am,af,h]
 ·refine ak (fn:=q2i) (s:=?K) rfl rfl (bg ?V) ?W
  case V=>simp[qay,q2i,h];rfl
  case W=>simp[ag,results,q2i,ah,am,af,h]
theorem gp (k:Int) (a:fB):ac pg 26 [I k] a=some (I (ar k),a):=by
 by_cases e:k=4\/k=5\/k=21\/k=22\/k=23
 ·refine ak (fn:=qw) (s:=⟨[(2,I 1)],[],a⟩) rfl rfl (bg ?J) ?Z
  case J=>
   have:=bg (c:=q2g) (s:=⟨[(0,(.int .i64 k)),(3,(.int .i64 k)),(4,(.bool true))],[],a⟩) (r:=fo ⟨[(2,I 1)],[],a⟩) (pg:=pg) (by simp[q2g]);rcases e with rfl|rfl|rfl|rfl|rfl<;>simp[q43,qw,this]
  case Z=>
   rcases e with rfl|rfl|rfl|rfl|rfl<;>simp[ag,results,qw,ah,am,af]<;>rfl
 simp only[not_or] at e;by_cases f:k=19
 ·refine ak (fn:=qw) (s:=⟨[(2,I 3)],[],a⟩) rfl rfl (bg ?Y) ?K
  case Y=>
   subst f;have:=bg (c:=q2g) (s:=⟨[(0,(.int .i64 19)),(3,(.int .i64 19)),(4,(.bool false))],[],a⟩) (r:=fo ⟨[(2,I 3)],[],a⟩) (pg:=pg) (by simp[q2g]);simp[q43,qw,this]
  case K=>subst f;simp[ag,results,qw,ah,am,af];rfl
 have d:=bg (c:=q2g) (s:=⟨[(0,(.int .i64 k)),(3,(.int .i64 k)),(4,(.bool false))],[],a⟩) (r:=fg ⟨[(0,I k),(10,B false)],[],a⟩) (pg:=pg) (by simp[q2g,f]);by_cases g:6<=k/\k<=20
 ·refine ak (fn:=qw) (s:=⟨[(2,I 2)],[],a⟩) rfl rfl (bg ?V) ?W
  case V=>
   have b:=bg (c:=q42) (s:=⟨[(0,(.int .i64 k)),(10,(.bool false))],[],a⟩) (r:=fo ⟨[(2,I 2)],[],a⟩) (pg:=pg) (by simp[q42,fe,g]);simp[q43,qw,e,d,b]
  case W=>
   have:ar k=2:=by simp only[ar];repeat' split<;>first|omega|rfl
   simp[ag,results,qw,ah,am,af,this]
 ·refine ak (fn:=qw) (s:=⟨[(2,I 0)],[],a⟩) rfl rfl (bg ?Ja) ?Jb
  case Ja=>
   have b:=bg (c:=q42) (s:=⟨[(0,(.int .i64 k)),(10,(.bool false))],[],a⟩) (r:=fo ⟨[(2,I 0)],[],a⟩) (pg:=pg) (by simp[q42,fe,g]);simp[q43,qw,e,d,b]
  case Jb=>
   have:ar k=0:=by simp only[ar];repeat' split<;>first|omega|rfl
   simp[ag,results,qw,ah,am,af,this]
theorem tV (k a n h g f i w:Int) (l:fB) (d:(i=0/\w=h)\/(i=1/\w=g)\/(i=2/\w=f)) :
  evK pg q1s fiK ⟨[(0,(.int .i64 k)),(1,(.int .i64 a)),(2,(.int .i64 n)),(7,(ec)),(9,(.int .i64 (ar k))),(10,(.int .i64 i))],[[(.int .i64 h),(.int .i64 g),(.int .i64 f)]],l⟩=if wOk k i w then fg ⟨[(0,I k),(1,I a),(2,I n),(7,ec),(9,I (ar k)),(10,I (i+1))],[[I h,I g,I f]],l⟩
   else fo ⟨[(8,I 3)],[],l⟩:=by
 have hw:(WI.wrap (i+1))=i+1:=aq aj aj;by_cases c:i<ar k
 ·have b:=Int.not_le.2 c
  by_cases j:1<=w
  ·by_cases e:w<=8
   ·rcases d with ⟨rfl,rfl⟩|⟨rfl,rfl⟩|⟨rfl,rfl⟩<;>simp[q1s,fe,c,b,wOk,j,e]<;>exact hw
   ·rcases d with ⟨rfl,rfl⟩|⟨rfl,rfl⟩|⟨rfl,rfl⟩<;>simp[q1s,fe,c,wOk,j,e]
  ·rcases d with ⟨rfl,rfl⟩|⟨rfl,rfl⟩|⟨rfl,rfl⟩<;>simp[q1s,fe,c,wOk,j]
 ·have b:=Int.not_lt.1 c
  by_cases e:w=0
  ·rcases d with ⟨rfl,rfl⟩|⟨rfl,rfl⟩|⟨rfl,rfl⟩<;>simp[q1s,c,b,wOk,e]<;>exact hw
  ·rcases d with ⟨rfl,rfl⟩|⟨rfl,rfl⟩|⟨rfl,rfl⟩<;>simp[q1s,c,b,wOk,e]
theorem GZ (k a n d c b:Int) (e:fB) :
  bm pg qfb ⟨[(0,I k),(1,I a),(2,I n),(7,ec),(9,I (ar k)),(10,I 0)],[[I d,I c,I b]],e⟩=
   if wOk k 0 d/\wOk k 1 c/\wOk k 2 b then fg ⟨[(0,I k),(1,I a),(2,I n),(7,ec)],[[I d,I c,I b]],e⟩ else fo ⟨[(8,I 3)],[],e⟩:=by
 have m:=tV k a n d c b 0 d e bh;have l:=tV k a n d c b 1 c e bh;have j:=tV k a n d c b 2 b e bh;by_cases i:wOk k 0 d
 ·rw[if_pos i] at m
  refine ay (bg m) ?_;by_cases g:wOk k 1 c
  ·rw[if_pos g] at l
   refine ay (bg l) ?_;by_cases f:wOk k 2 b
   ·rw[if_pos f] at j
    refine ay (bg j) ?_;rw[if_pos ⟨i,g,f⟩];refine (bn (s1:=?J) (bg ?Z)).trans ?Y
    case Z=>simp[q1s];rfl
    case Y=>simp[keep]
   ·rw[if_neg f] at j
    rw[if_neg (λh=>f h.2.2)];exact cx (bg j)
  ·rw[if_neg g] at l
   rw[if_neg (λh=>g h.2.1)];exact cx (bg l)
 ·rw[if_neg i] at m
  rw[if_neg (λh=>i h.1)];exact cx (bg m)
theorem jh (k n:Int) (b:Bool) (c:fB) :
  bm pg q40 ⟨[(0,I k),(2,I n),(11,B b)],[],c⟩=fo ⟨[(8,I (if b=false\/(k≠21/\n≠0) then 1 else 0))],[],c⟩:=by
 refine bg ?_;cases b
 ·simp[q40]
 ·by_cases a:k=21
  ·simp[q40,a]
  ·by_cases d:n=0<;>simp[q40,a,d]
theorem Ha (k a n b f j s:Int) (q:fB) (d:cn k=some s) (hw:1<=a/\a<=8) (y:wOk k 0 b) (z:wOk k 1 f) :
  bm pg qu ⟨[(0,I k),(1,I a),(2,I n),(7,ec)],[[I b,I f,I j]],q⟩=fo ⟨[(8,I (if b9 s a n b f j then 0 else 1))],[],q⟩:=by
 refine bg ?_;by_cases i:k=4
 ·subst i;cases d
  simp[qu,jh,b9];by_cases hn:n=0<;>by_cases c:b=a<;>simp[hn,c]
 by_cases h:k=5
 ·subst h;cases d
  simp[qu,jh,b9];by_cases hn:n=0<;>by_cases c:b=a<;>simp[hn,c]
 by_cases p:6<=k/\k<=15
 ·have:s=2:=by
   simp only[cn] at d;rw[if_neg aj,if_neg aj,if_pos aj] at d;cases d;rfl
  subst this;have l:k≠21:=aj;by_cases hn:n=0<;>by_cases c:b=a<;>by_cases e:f=a<;>simp[qu,jh,fe,b9,i,h,p,l,hn,c,e]
 by_cases w:16<=k/\k<=18
 ·have:s=3:=by
   simp only[cn] at d;rw[if_neg aj,if_neg aj,if_neg aj,if_pos aj] at d;cases d;rfl
  subst this;have l:k≠21:=aj;by_cases hn:n=0<;>by_cases c:b=f<;>by_cases e:a=1<;>simp[qu,jh,fe,b9,i,h,p,w,l,hn,c,e]
 by_cases v:k=19
 ·subst v;cases d
  by_cases hn:n=0<;>by_cases c:b=1<;>by_cases e:f=a<;>by_cases m:j=a<;>simp[qu,jh,fe,b9,hn,c,e,m]
 by_cases u:k=20
 ·subst u;cases d
  by_cases hn:n=0<;>by_cases c:WI.wrap (b+f)=a<;>simp[qu,jh,fe,b9,hn,c]
 by_cases t:k=21
 ·subst t;cases d
  have x:1<=b/\b<=8:=y;have o:WI.wrap (b-a)=b-a:=aq aj aj;by_cases hn:0<=n
  ·by_cases g:n<=8
   ·have r:WI.wrap (n+a)=n+a:=aq aj aj
    by_cases c:n+a<=b
    ·simp[qu,jh,fe,b9,hn,g,o,r,c,show n<=b-a by omega]
    ·simp[qu,jh,fe,b9,hn,g,o,r,c,show ¬n<=b-a by omega]
   ·simp[qu,jh,fe,b9,hn,g,o,show ¬n<=b-a by omega]
  ·simp[qu,jh,fe,b9,hn]
 ·have:s=7:=by
   simp only[cn] at d
   repeat' split at d
   all_goals first|(exfalso;omega)|(cases d;done)|(cases d;rfl)
  subst this;by_cases hn:n=0<;>by_cases c:b<=a<;>simp[qu,jh,fe,b9,i,h,p,w,v,u,t,hn,c]
theorem yL (k:Int):ar k=0↔cn k=none:=by
 simp only[ar,cn];constructor
 ·intro h;repeat' split
  all_goals first|rfl|(exfalso;revert h;repeat' split)<;>omega
 ·intro h;repeat' split
  all_goals first|rfl|(exfalso;revert h;repeat' split)<;>first|omega|simp
theorem Hb (k a n e d c:Int) (g:fB):ac pg 23 [I k,I a,I n,.agg [I e,I d,I c]] g=some (I (ir k a n e d c),g):=by
 simp only[ir];cases j:cn k with
 |none=>
  refine ak (fn:=qv) (s:=?J) rfl rfl (bg ?Z) ?Y
  case Z=>simp[q41,qv,gp,(yL k).2 j];rfl
  case Y=>simp[ag,results,qv,ah,am,af]
 | some s=>
  have i:ar k≠0:=λh=>by rw[yL,j] at h;cases h
  by_cases hw:1<=a/\a<=8
  ·have f:=GZ k a n e d c g
   simp only[hw,not_true,if_false,and_self];by_cases b:wOk k 0 e/\wOk k 1 d/\wOk k 2 c
   ·rw[if_pos b] at f
    have l:=Ha k a n e d c s g j hw b.1 b.2.1;simp only[b,not_true,if_false,and_self];refine ak (fn:=qv) (s:=?K) rfl rfl (bg ?V) ?W
    case V=>simp[q41,qv,gp,i,fe,hw,f,l];rfl
    case W=>simp[ag,results,qv,ah,am,af]
   ·rw[if_neg b] at f
    refine ak (fn:=qv) (s:=?Ja) rfl rfl (bg ?Jb) ?Jc
    case Jb=>simp[q41,qv,gp,i,fe,hw,f];rfl
    case Jc=>simp[ag,results,qv,ah,am,af,b]
  ·refine ak (fn:=qv) (s:=?Jd) rfl rfl (bg ?Je) ?Jf
   case Je=>simp[q41,qv,gp,i,fe,hw];rfl
   case Jf=>simp[ag,results,qv,ah,am,af,hw]
end
section
attribute [local congr] bu
attribute [local simp] au
section
variable {ins:Int} {ands:fN} {gh:fB}
theorem PR (x:Int×Int) (a b:Int):fj [false,false] [I x.1,I x.2] [I a,I b]=some (decide (x=(a,b))):=by
 obtain⟨c,d⟩:=x;by_cases e:c=a
 ·by_cases f:d=b<;>simp[fj,jB,e,f]
 ·simp[fj,jB,e]
theorem PS {a b:Int} {f:Nat} (o:f<=ands.length) (n:ands.length<=1000000):∀k i,i+k=f->
  bm pg qod ⟨[(1,I f),(3,ec),(5,eK),(7,I (i:Int))],[[I ins,.sl false 2 (ands.map andV)],[I a,I b]],gh⟩=
   match atA ((ands.take f).drop i) (a,b) with
   |some j=>fo ⟨[(6,I ((i+j:Nat):Int))],[],gh⟩
   |none=>fg ⟨[],[],gh⟩
 |0,i,h=>by
  rw[aM (by simp;omega)];have e:¬(i:Int)<(f:Int):=aj;refine (bn (s1:=?J) (bg ?Z)).trans ?Y
  case Z=>simp[ql2,e];rfl
  case Y=>rfl
 | k+1,i,h=>by
  have e:i<ands.length:=aj;have g:i<(ands.take f).length:=by simp;omega
  have d:(i:Int)<(f:Int):=aj;have p:WI.wrap ((i:Int)+1)=((i+1:Nat):Int):=by rw[aq aj aj];omega
  have m:(ands.map andV)[i]?=some (.agg [I ands[i].1,I ands[i].2]):=by simp[aA e,andV]
  rw[aJ g,atA,List.getElem_take];have c:=PR ands[i] a b;by_cases l:(a,b)=ands[i]
  ·rw[if_pos l]
   rw[aG l.symm] at c;refine cx (bg ?_);simp[-fj,-jB,ql2,d,m,c,-List.getElem?_map]
  ·rw[if_neg l]
   rw[aF (λh=>l h.symm)] at c;refine ay (s1:=⟨[(1,I f),(3,ec),(5,eK),(7,I ((i+1:Nat):Int))],[[I ins,.sl false 2 (ands.map andV)],[I a,I b]],gh⟩) (bg ?_) ?_
   ·simp[-fj,-jB,ql2,d,m,c,p,-List.getElem?_map]
   ·refine (PS o n k (i+1) aj).trans ?_
    cases atA ((ands.take f).drop (i+1)) (a,b) with
    |none=>rfl
    |some j=>simp;omega
theorem Sg {a b:Int} {f:Nat} (i:f<=ands.length) (g:ands.length<=1000000):ac pg 51 [gu ins ands,I f,.agg [I a,I b]] gh=some (I (match atA (ands.take f) (a,b) with|some j=>(j:Int)|none=> -1),gh):=by
 have d:=PS (ins:=ins) (gh:=gh) (a:=a) (b:=b) i g f 0 aj;rw[bJ] at d;simp only[cX,aR] at d;cases e:atA (ands.take f) (a,b) with
 |some j=>
  rw[e] at d;refine ak (fn:=qkf) (s:=?J) rfl rfl (bg ?Z) ?Y
  case Z=>simp[qmg,qkf,d];rfl
  case Y=>simp[ag,results,qkf,ah,am,af]
 |none=>
  rw[e] at d;have h:=bg (c:=qmf) (s:=⟨[],[],gh⟩) (r:=fo ⟨[(6,I (-1))],[],gh⟩) (pg:=pg) (by simp[qmf]<;>rfl);refine ak (fn:=qkf) (s:=?K) rfl rfl (bg ?V) ?W
  case V=>simp[qmg,qkf,d,h];rfl
  case W=>simp[ag,results,qkf,ah,am,af]
theorem Sh (t:0<=ins/\ins<=1000) (s:ands.length<=1000000) {i:Nat} (c:i<ands.length) (hr: -9223372036854775808<=ands[i].1/\ands[i].1<=9223372036854775807) (k: -9223372036854775808<=ands[i].2/\ands[i].2<=9223372036854775807) :
  evK pg qk7 fiK ⟨[(1,(ec)),(3,(.int .i64 i))],[[(.int .i64 ins),(.sl false 2 (ands.map andV))]],gh⟩=
   if kX ins i ands[i] then fo ⟨[(2,I 4)],[],gh⟩
   else fg ⟨[(1,ec),(3,I ((i+1:Nat):Int))],[[I ins,.sl false 2 (ands.map andV)]],gh⟩:=by
 have r:WI.wrap ((i:Int)+1)=((i+1:Nat):Int):=by rw[aq aj aj];omega
 have d:(ands.map andV)[i]?=some (.agg [I ands[i].1,I ands[i].2]):=by simp[aA c,andV]
 generalize f:ands[i]=x at *;obtain⟨a,b⟩:=x;simp only at hr k d;have m:WI.wrap (2*WI.wrap (WI.wrap (1+ins)+(i:Int)))=2*(1+ins+i):=by rw[aq (n:=1+ins) aj aj,aq (n:=1+ins+i) aj aj,aq aj aj]
 have o:(i:Int)<(ands.length:Int):=aj;by_cases e:b<=a
 ·rw[if_pos (show kX ins i (a,b) from .inl e)]
  simp[qk7,c,d,f,mT,e,-List.getElem?_map]
 by_cases g:a<2
 ·rw[if_pos (show kX ins i (a,b) from .inr (.inl g))]
  simp[qk7,c,d,f,mT,e,g,-List.getElem?_map]
 have q:WI.wrap (Int.tdiv a 2)=a/2:=by rw[Oa aj,aq aj aj]
 have p:WI.wrap (Int.tdiv b 2)=b/2:=by rw[Oa aj,aq aj aj]
 by_cases j:2*(1+ins+i)<=b
 ·rw[if_pos (show kX ins i (a,b) from .inr (.inr (.inl j)))]
  simp[qk7,c,d,f,mT,e,g,m,j,-List.getElem?_map]
 by_cases l:a/2=b/2
 ·rw[if_pos (show kX ins i (a,b) from .inr (.inr (.inr l)))]
  simp[qk7,c,d,f,mT,e,g,m,q,p,j,l,-List.getElem?_map]
 ·rw[if_neg (show ¬kX ins i (a,b) by rintro (h|h|h|h)<;>contradiction)]
  simp[qk7,c,d,f,mT,e,g,m,q,p,j,l,r,-List.getElem?_map]
theorem PT (f:0<=ins/\ins<=1000) (e:ands.length<=1000000) (hr:RA ands):∀k i,i+k=ands.length->
  bm pg qo7 ⟨[(1,ec),(3,I (i:Int))],[[I ins,.sl false 2 (ands.map andV)]],gh⟩=
  if okA ins i (ands.drop i) then fg ⟨[(1,ec)],[[I ins,.sl false 2 (ands.map andV)]],gh⟩ else fo ⟨[(2,I 4)],[],gh⟩
 |0,i,h=>by
  rw[aM aj,okA,if_pos rfl];have a:¬i<ands.length:=aj;refine (bn (s1:=?J) (bg ?Z)).trans ?Y
  case Z=>simp[qk7,a];rfl
  case Y=>simp[keep]
 | k+1,i,h=>by
  have a:i<ands.length:=aj;have d:=hr ands[i] (cD a);have c:=Sh (gh:=gh) f e a d.1 d.2;rw[aJ a,okA];by_cases b:kX ins i ands[i]
  ·rw[if_pos b] at c ⊢
   exact cx (bg c)
  ·rw[if_neg b] at c ⊢
   exact ay (bg c) (PT f e hr k (i+1) aj)
theorem PU (q:ands.length<=1000000):∀k i,i+k=ands.length->(ands.take i).Nodup->
  bm pg qo8 ⟨[(1,ec),(6,I (i:Int))],[[I ins,.sl false 2 (ands.map andV)]],gh⟩=
  if ands.Nodup then fg ⟨[],[],gh⟩ else fo ⟨[(2,I 6)],[],gh⟩
 |0,i,h,hn=>by
  rw[bK aj] at hn;rw[if_pos hn];have c:¬i<ands.length:=aj;refine (bn (s1:=?J) (bg ?Z)).trans ?Y
  case Z=>simp[qky,c];rfl
  case Y=>simp[keep]
 | k+1,i,h,hn=>by
  have c:i<ands.length:=aj;have s:WI.wrap ((i:Int)+1)=((i+1:Nat):Int):=by rw[aq aj aj];omega
  have n:(ands.map andV)[i]?=some (.agg [I ands[i].1,I ands[i].2]):=by simp[aA c,andV]
  have g:=Sg (ins:=ins) (gh:=gh) (a:=ands[i].1) (b:=ands[i].2) (f:=i) aj q;unfold gu at g;have d:ands.take (i+1)=ands.take i++[ands[i]]:=by rw[List.take_add_one,aA c];rfl
  cases m:atA (ands.take i) (ands[i].1,ands[i].2) with
  | some j=>
   rw[m] at g;have e:ands[i]∈ands.take i:=by apply aP;intro r;rw[atA_none.2 (show (ands[i].1,ands[i].2)∉ands.take i from r)] at m;cases m
   have l:¬ands.Nodup:=by intro l;have:=l.sublist (List.take_sublist (i+1) ands);rw[d,cT] at this;exact this.2.2 _ e _ bh rfl
   rw[if_neg l];have t:(0:Int)<=(j:Int):=aj;refine cx (bg ?_);simp[qky,c,n,mT,g,-List.getElem?_map]
  | none=>
   rw[m] at g;have e:ands[i]∉ands.take i:=atA_none.1 m;refine ay (s1:=⟨[(1,ec),(6,I ((i+1:Nat):Int))],[[I ins,.sl false 2 (ands.map andV)]],gh⟩) (bg ?_) (PU q k (i+1) aj ?_)
   ·simp[qky,c,n,mT,g,s,-List.getElem?_map]
   ·rw[d,cT]
    exact⟨hn,bh,λx n y p o=>by simp at p;subst p;subst o;exact e n⟩
theorem Si (hr:RA ands):ac pg 2 [gu ins ands] gh=some (I (cq ins ands),gh):=by
 by_cases b:0<=ins/\ins<=1000
 ·by_cases k:1000000<ands.length
  ·have d:(1000000:Int)<(ands.length:Int):=aj
   have e:cq ins ands=2:=by unfold cq;rw[if_neg (λh=>h b),if_pos k]
   refine ak (fn:=qjy) (s:=?J) rfl rfl (bg ?Z) ?Y
   case Z=>simp[qkk,qjy,fe,b,d];rfl
   case Y=>simp[ag,results,qjy,ah,am,af,e]
  ·have d:¬(1000000:Int)<(ands.length:Int):=aj
   have i:=PT (gh:=gh) b aj hr ands.length 0 aj;rw[bJ] at i;simp only[aR] at i;cases a:okA ins 0 ands with
   |false=>
    rw[a] at i;have e:cq ins ands=4:=by unfold cq;rw[if_neg (λh=>h b),if_neg k,a];rfl
    refine ak (fn:=qjy) (s:=?K) rfl rfl (bg ?V) ?W
    case V=>simp[qkk,qjy,fe,b,d,i];rfl
    case W=>simp[ag,results,qjy,ah,am,af,e]
   | true=>
    rw[a,if_pos rfl] at i;have j:=PU (ins:=ins) (gh:=gh) (show ands.length<=1000000 by omega) ands.length 0 aj bh;simp only[aR] at j;have l:=bg (c:=qm9) (s:=⟨[],[],gh⟩) (r:=fo ⟨[(2,I 0)],[],gh⟩) (pg:=pg) (by simp[qm9]<;>rfl);by_cases f:ands.Nodup
    ·rw[if_pos f] at j
     have e:cq ins ands=0:=by unfold cq;rw[if_neg (λh=>h b),if_neg k,a,if_pos rfl,if_pos f]
     have g:=bg (c:=qko) (s:=⟨[(1,(ec))],[[(.int .i64 ins),(.sl false 2 (ands.map andV))]],gh⟩) (r:=fo ⟨[(2,I 0)],[],gh⟩) (pg:=pg) (by simp[qko,j,l]);refine ak (fn:=qjy) (s:=?Ja) rfl rfl (bg ?Jb) ?Jc
     case Jb=>simp[qkk,qjy,fe,b,d,i,g];rfl
     case Jc=>simp[ag,results,qjy,ah,am,af,e]
    ·rw[if_neg f] at j
     have e:cq ins ands=6:=by unfold cq;rw[if_neg (λh=>h b),if_neg k,a,if_pos rfl,if_neg f]
     have g:=bg (c:=qko) (s:=⟨[(1,(ec))],[[(.int .i64 ins),(.sl false 2 (ands.map andV))]],gh⟩) (r:=fo ⟨[(2,I 6)],[],gh⟩) (pg:=pg) (by simp[qko,j]);refine ak (fn:=qjy) (s:=?Jd) rfl rfl (bg ?Je) ?Jf
     case Je=>simp[qkk,qjy,fe,b,d,i,g];rfl
     case Jf=>simp[ag,results,qjy,ah,am,af,e]
 ·have e:cq ins ands=3:=by unfold cq;rw[if_pos b]
  refine ak (fn:=qjy) (s:=?Jg) rfl rfl (bg ?Jh) ?Ji
  case Jh=>simp[qkk,qjy,fe,b];rfl
  case Ji=>simp[ag,results,qjy,ah,am,af,e]
theorem PW (d:0<=ins/\ins<=1000) (c:ands.length<=1000000) (n:Int):ac pg 3 [gu ins ands,I n] gh=some (B (fF ins ands n),gh):=by
 have b:WI.wrap (WI.wrap (2*WI.wrap (WI.wrap (1+ins)+(ands.length:Int)))-1)=2*fJ ins ands-1:=by unfold fJ;rw[aq (n:=1+ins) aj aj,aq (n:=1+ins+ands.length) aj aj,aq (n:=2*(1+ins+ands.length)) aj aj,aq aj aj]
 have e:(decide (0<=n/\n<=2*fJ ins ands-1))=fF ins ands n:=by unfold fF;rw[Bool.eq_iff_iff,aH,aH];omega
 have a:=fe n 0 (2*fJ ins ands-1) gh;rw[e] at a;refine ak (fn:=qkz) (s:=⟨[(4,B (fF ins ands n))],[],gh⟩) rfl rfl (bg ?J) ?Z
 case J=>simp[qo9,qkz,b,a]
 case Z=>simp[ag,results,qkz,ah,am,af]
theorem PX (g:0<=ins/\ins<=1000) (f:ands.length<=1000000) {a:fq} (e:Sz a.length):∀k i,i+k=a.length->
  bm pg qoc ⟨[(1,LI a),(2,ec),(5,I (i:Int))],[[I ins,.sl false 2 (ands.map andV)]],gh⟩=
   if (a.drop i).all (fF ins ands)=true then fg ⟨[],[],gh⟩ else fo ⟨[(4,B false)],[],gh⟩
 |0,i,h=>by
  rw[aM aj,List.all_nil,if_pos rfl];have b:¬i<a.length:=aj;refine (bn (s1:=?J) (bg ?Z)).trans ?Y
  case Z=>simp[ql1,b];rfl
  case Y=>simp[keep]
 | k+1,i,h=>by
  have b:i<a.length:=aj;have j:WI.wrap ((i:Int)+1)=((i+1:Nat):Int):=gv (by simp only[Sz] at e ⊢;omega);have c:=PW (gh:=gh) g f a[i];unfold gu at c;have l:(a.map I)[i]?=some (I a[i]):=by simp[aA b]
  rw[aJ b,List.all_cons];cases d:fF ins ands a[i] with
  | true=>
   rw[d] at c;refine ay (s1:=⟨[(1,LI a),(2,ec),(5,I ((i+1:Nat):Int))],[[I ins,.sl false 2 (ands.map andV)]],gh⟩) (bg ?K) ?V
   case K=>simp[ql1,b,c,j]
   case V=>
    rw[Bool.true_and];exact PX g f e k (i+1) aj
  |false=>
   rw[d] at c;rw[Bool.false_and,if_neg bh];refine cx (bg ?W)
   case W=>simp[ql1,b,c]
theorem Sj (f:0<=ins/\ins<=1000) (d:ands.length<=1000000) {lits:fq} (b:Sz lits.length):ac pg 10 [gu ins ands,LI lits] gh=some (B (lits.all (fF ins ands)),gh):=by
 have h:=PX (gh:=gh) f d b lits.length 0 aj;rw[bJ] at h;simp only[aR] at h;cases a:lits.all (fF ins ands) with
 |true=>
  rw[if_pos a] at h;have e:=bg (c:=qmc) (s:=⟨[],[],gh⟩) (r:=fo ⟨[(4,B true)],[],gh⟩) (pg:=pg) (by simp[qmc]<;>rfl);refine ak (fn:=qke) (s:=?J) rfl rfl (bg ?Z) ?Y
  case Z=>simp[qmd,qke,h,e];rfl
  case Y=>simp[ag,results,qke,ah,am,af]
 |false=>
  rw[if_neg (by rw[a];simp)] at h;refine ak (fn:=qke) (s:=?K) rfl rfl (bg ?V) ?W
  case V=>simp[qmd,qke,h];rfl
  case W=>simp[ag,results,qke,ah,am,af]
end
end
section
attribute [local congr] bu
attribute [local simp] au
section
variable {ins:Int} {ands:fN} {gh:fB}
end
def RI (l:fq):Prop:=∀x∈l,-9223372036854775808<=x/\x<=9223372036854775807
end
section
attribute [local congr] bu
attribute [local simp] au
theorem lS:∀(v:fS) (l:fN),∃t,dg v l=v++t
 |v,[]=>⟨[],by simp[dg]⟩
 |v,x::l=>by obtain⟨t,a⟩:=lS (v++[db v x.1&&db v x.2]) l;exact⟨[db v x.1&&db v x.2]++t,by rw[dg,a,aT]⟩
theorem t8 {v t:fS} {n:Int} (h:(n/2).toNat<v.length):db (v++t) n=db v n:=by unfold db;simp only[aK,aI h]
theorem ua (v:fS) (l m:fN):dg v (l++m)=dg (dg v l) m:=by
 induction l generalizing v with
 |nil=>rfl
 |cons x l a=>rw[bH,dg,dg,a]
theorem zj:∀{v:fS} {l:fN} {i:Nat} (h:i<l.length),Oe l[i] (v.length+i)->(dg v l).getD (v.length+i) false=(db (dg v l) l[i].1&&db (dg v l) l[i].2)
 |v,x::l,0,_,a=>by
  simp only[List.getElem_cons_zero,cG] at a ⊢;obtain⟨t,b⟩:=lS (v++[db v x.1&&db v x.2]) l;have e:dg v (x::l)=v++((db v x.1&&db v x.2)::t):=by rw[dg,b,aT];rfl
  rw[e,t8 a.1.2.2,t8 a.2.2.2];simp[aK]
 | v,x::l,i+1,h,a=>by simp only[List.getElem_cons_succ] at a ⊢;have:=zj (v:=v++[db v x.1&&db v x.2]) (l:=l) (i:=i) (by simpa using h) (by rw[show (v++[db v x.1&&db v x.2]).length+i=v.length+(i+1) by simp;omega];exact a);rw[show (v++[db v x.1&&db v x.2]).length+i=v.length+(i+1) by simp;omega] at this;rw[dg];exact this
section
variable {ins:Int} {ands:fN}
theorem HA {i:Nat} {l:fN} {x:Int×Int} (h:okA ins i l=true) (a:¬kX ins (i+l.length) x):okA ins i (l++[x])=true:=by
 induction l generalizing i with
 |nil=>simpa [okA] using a
 | cons y l b=>
  rw[okA] at h;split at h
  ·cases h
  ·rename_i c
   rw[bH,okA,if_neg c];refine b h ?_;rw[show i+1+l.length=i+(y::l).length by simp;omega];exact a
theorem zk (l:cq ins ands=0) {a b:Int} (ha:fF ins ands a=true) (F:fF ins ands b=true) (O:a<=b) (u:(e8 ins ands a b).1.length<=1000000) {v:fS} (R:(v.length:Int)=ins) :
  cq ins (e8 ins ands a b).1=0/\ands.length<=(e8 ins ands a b).1.length/\fF ins (e8 ins ands a b).1 (e8 ins ands a b).2=true/\
  (∃t,dg (false::v) (e8 ins ands a b).1=dg (false::v) ands++t)/\
  db (dg (false::v) (e8 ins ands a b).1) (e8 ins ands a b).2=(db (dg (false::v) ands) a&&db (dg (false::v) ands) b):=by
 obtain⟨E,S,f,p⟩:=dX l;have D:=tT (false::v) ands;have T:fJ ins ands=1+ins+ands.length:=rfl;have L:(false::v).length=v.length+1:=rfl;have k:=ha;have j:=F;unfold fF at k j;rw[aH] at k j;have B:(dg (false::v) ands).getD 0 false=false:=by obtain⟨t,M⟩:=lS (false::v) ands;rw[M];rfl
 unfold e8;split
 ·rename_i h
  refine⟨l,cW _,?_,⟨[],bh⟩,?_⟩
  ·dsimp only;unfold fF;rw[aH];omega
  ·dsimp only
   have H:db (dg (false::v) ands) 0=false:=by unfold db;rw[show ((0:Int)/2).toNat=0 by decide,B];rfl
   rw[H];rcases h with rfl|⟨P,d⟩
   ·rw[H];rfl
   ·unfold db
    rw[P];have:a%2=1/\b%2≠1\/a%2≠1/\b%2=1:=aj;rcases this with ⟨m,z⟩|⟨m,z⟩
    ·rw[aG m,aF z];cases (dg (false::v) ands).getD (b/2).toNat false<;>rfl
    ·rw[aF m,aG z];cases (dg (false::v) ands).getD (b/2).toNat false<;>rfl
 ·rename_i h
  simp only[not_or] at h;split
  ·rename_i d
   refine⟨l,cW _,F,⟨[],bh⟩,?_⟩;rcases d with rfl|rfl
   ·have Q:db (dg (false::v) ands) 1=true:=by unfold db;rw[show ((1:Int)/2).toNat=0 by decide,B];rfl
    rw[Q];rfl
   ·rw[Bool.and_self]
  ·rename_i d
   simp only[not_or] at d;have m:a/2≠b/2:=λe=>h.2 ⟨e,d.2⟩
   cases c:atA ands (a,b) with
   | some i=>
    obtain⟨A,G⟩:=GK c;refine⟨l,cW _,?_,⟨[],bh⟩,?_⟩
    ·dsimp only;unfold fF;rw[aH];omega
    ·dsimp only
     have N:ands[i]=(a,b):=by rw[aA A] at G;exact cZ G
     have g:=yI f A;have w:Oe ands[i] ((false::v).length+i):=GV E (by simpa using g) aj aj;have:=zj A w;rw[N] at this;rw[<-this];unfold db;rw[show (2*(1+ins+(i:Int))/2).toNat=(false::v).length+i by omega,aF aj];cases (dg (false::v) ands).getD ((false::v).length+i) false<;>rfl
   | none=>
    have o:=atA_none.1 c;simp only[e8,c] at u;rw[if_neg (by rintro (q|q);exact h.1 q;exact h.2 q),if_neg (by rintro (q|q);exact d.1 q;exact d.2 q)] at u;simp only[aQ,aV,cF] at u;have s:¬kX ins (0+ands.length) (a,b):=by unfold kX;simp only;omega
    refine⟨?_,bh,?_,⟨[db (dg (false::v) ands) a&&db (dg (false::v) ands) b],by rw[ua];rfl⟩,?_⟩
    ·unfold cq
     rw[if_neg (λq=>q E),if_neg (by simp;omega),if_pos (HA f s),if_pos];rw[cT];exact⟨p,bh,λx I y C n=>by simp at C;subst C;subst n;exact o I⟩
    ·dsimp only;unfold fF;rw[aH];unfold fJ;simp only[aQ,aV,cF];omega
    ·dsimp only
     rw[ua]
     show db (dg (false::v) ands++[db (dg (false::v) ands) a&&db (dg (false::v) ands) b]) _=_
     generalize (db (dg (false::v) ands) a&&db (dg (false::v) ands) b)=r;unfold db;rw[show (2*fJ ins ands/2).toNat=(dg (false::v) ands).length by omega,aF aj];simp[aK]
theorem HB (e:cq ins ands=0) {a b:Int} (ha:fF ins ands a=true) (f:fF ins ands b=true) (c:(fy ins ands a b).1.length<=1000000) {v:fS} (d:(v.length:Int)=ins) :
  cq ins (fy ins ands a b).1=0/\ands.length<=(fy ins ands a b).1.length/\fF ins (fy ins ands a b).1 (fy ins ands a b).2=true/\
  (∃t,dg (false::v) (fy ins ands a b).1=dg (false::v) ands++t)/\
  db (dg (false::v) (fy ins ands a b).1) (fy ins ands a b).2=(db (dg (false::v) ands) a&&db (dg (false::v) ands) b):=by
 unfold fy at c ⊢;split
 ·rename_i h
  rw[if_pos h] at c;have:=zk e f ha aj c d;rw[Bool.and_comm];exact this
 ·rename_i h
  rw[if_neg h] at c;exact zk e ha f aj c d
end
end
section
attribute [local congr] bu
attribute [local simp] au
theorem zl (b:Bool) (a:fB):ac pg 114 [B b] a=some (I (if b then 1 else 0),a):=by
 cases b
 ·refine ak (fn:=q34) (s:=?J) rfl rfl (bg ?Z) ?Y
  case Z=>simp[qd2,q34];rfl
  case Y=>simp[ag,results,q34,ah,am,af]
 ·refine ak (fn:=q34) (s:=?K) rfl rfl (bg ?V) ?W
  case V=>simp[qd2,q34];rfl
  case W=>simp[ag,results,q34,ah,am,af]
def iM (n w:Int):Int:=if eR .i64 1 (w-1)<=n then WI.wrap (n-eR .i64 1 w) else n
theorem ub (n w:Int) (hw:1<=w/\w<=8) (a:fB):ac pg 115 [I n,I w] a=some (I (iM n w),a):=by
 have e:WI.wrap (w-1)=w-1:=aq aj aj;have b:0<=w:=aj;by_cases h:eR .i64 1 (w-1)<=n
 ·refine ak (fn:=q35) (s:=?J) rfl rfl (bg ?Z) ?Y
  case Z=>simp[qd3,q35,e,hw.1,b,h];rfl
  case Y=>simp[ag,results,q35,ah,am,af,iM,h]
 ·refine ak (fn:=q35) (s:=?K) rfl rfl (bg ?V) ?W
  case V=>simp[qd3,q35,e,hw.1,h];rfl
  case W=>simp[ag,results,q35,ah,am,af,iM,h]
theorem HC (n w:Int) (hw:0<=w) (a:fB):ac pg 65 [I n,I w] a=some (B (decide (0<=n/\n<eR .i64 1 w)),a):=by
 by_cases h:0<=n
 ·refine ak (fn:=q33) (s:=?J) rfl rfl (bg ?Z) ?Y
  case Z=>simp[qd0,q33,hw,h];rfl
  case Y=>simp[ag,results,q33,ah,am,af,h]
 ·refine ak (fn:=q33) (s:=?K) rfl rfl (bg ?V) ?W
  case V=>simp[qd0,q33,h];rfl
  case W=>simp[ag,results,q33,ah,am,af,h]
def dZ (k a b c n e d:Int):Int:=
 if k=4 then mS .i64 a else if k=5 then WI.wrap (0-a) else if k=6 then jI .i64 a b else if k=7 then iOr .i64 a b else if k=8 then gz .i64 a b
 else if k=9 then WI.wrap (a+b) else if k=10 then WI.wrap (a-b) else if k=11 then WI.wrap (a*b) else if k=14 then eR .i64 a b else if k=15 then kg .i64 a b
 else if k=16 then (if a=b then 1 else 0) else if k=17 then (if a<b then 1 else 0) else if k=18 then (if iM a e<iM b d then 1 else 0)
 else if k=20 then iOr .i64 (eR .i64 a d) b else if k=21 then kg .i64 a n else if k=23 then iM a e else if k=19 then (if a=1 then b else c)
 else if k=12 then (if b=0 then -1 else WI.wrap (Int.tdiv a b)) else if k=13 then (if b=0 then a else Int.tmod a b) else a
theorem HD (k d a b c n f e j:Int) (o:4<=k/\k<24) (p:0<=b) (hn:k=21->0<=n) (l:1<=f/\f<=8) (g:k=18\/k=20->1<=e/\e<=8) (i:fB) :
  ac pg 96 [I k,I d,I a,I b,I c,I n,.agg [I f,I e,I j]] i=some (I (dZ k a b c n f e),i):=by
 have m:evK pg q1y fiK ⟨[(0,(.int .i64 k)),(1,(.int .i64 d)),(2,(.int .i64 a)),(3,(.int .i64 b)),(4,(.int .i64 c)),(5,(.int .i64 n)),(6,(.agg [(.int .i64 f),(.int .i64 e),(.int .i64 j)]))],[],i⟩=fo ⟨[(14,I (dZ k a b c n f e))],[],i⟩:=by
  have:k=4\/k=5\/k=6\/k=7\/k=8\/k=9\/k=10\/k=11\/k=12\/k=13\/k=14\/k=15\/k=16\/k=17\/k=18\/k=19\/k=20\/k=21\/k=22\/k=23:=aj;rcases this with rfl|rfl|rfl|rfl|rfl|rfl|rfl|rfl|rfl|rfl|rfl|rfl|rfl|rfl|rfl|rfl|rfl|rfl|rfl|rfl
  case inr.inr.inr.inr.inr.inr.inr.inr.inl=>by_cases h:b=0<;>simp[q1y,dZ,h]
  case inr.inr.inr.inr.inr.inr.inr.inr.inr.inl=>by_cases h:b=0<;>simp[q1y,dZ,h]
  case inr.inr.inr.inr.inr.inr.inr.inr.inr.inr.inr.inr.inr.inr.inl=>
   have g:=g (.inl rfl);simp[q1y,dZ,zl,ub a f l,ub b e g]
  case inr.inr.inr.inr.inr.inr.inr.inr.inr.inr.inr.inr.inr.inr.inr.inl=>by_cases h:a=1<;>simp[q1y,dZ,h]
  case inr.inr.inr.inr.inr.inr.inr.inr.inr.inr.inr.inr.inr.inr.inr.inr.inl=>
   have g:0<=e:=by have:=g (.inr rfl);omega
   simp[q1y,dZ,g]
  all_goals simp_all [q1y,dZ,zl,ub a f l]
 refine ak (fn:=qd1) rfl rfl (bg m) ?J;simp[ag,results,qd1,ah,am,af]
def cy (k d a b c n f e:Int):Int:=jI .i64 (dZ k a b c n f e) (WI.wrap (eR .i64 1 d-1))
theorem HE (k d a b c n f e g:Int) (i:4<=k/\k<24) (j:0<=b) (hn:k=21->0<=n) (m:1<=f/\f<=8) (l:k=18\/k=20->1<=e/\e<=8) (hw:0<=d) (h:fB) :
  ac pg 66 [I k,I d,I a,I b,I c,I n,.agg [I f,I e,I g]] h=some (I (cy k d a b c n f e),h):=by
 refine ak (fn:=q8a) (s:=?J) rfl rfl (bg ?Z) ?Y
 case Z=>simp[qgu,q8a,HD k d a b c n f e g i j hn m l,hw];rfl
 case Y=>simp[ag,results,q8a,ah,am,af,cy]
def HF (k i x w:Int):Prop:=if i<ar k then 0<=x/\x<eR .i64 1 w else x=0
instance (k i x w:Int):Decidable (HF k i x w):=inferInstanceAs (Decidable (if i<ar k then 0<=x/\x<eR .i64 1 w else x=0))
theorem rj {k a n d c b:Int} (h:ir k a n d c b=0):(4<=k/\k<24)/\(1<=a/\a<=8)/\wOk k 0 d/\wOk k 1 c/\wOk k 2 b/\∃s,cn k=some s/\b9 s a n d c b=true:=by
 unfold ir at h;cases e:cn k with
 |none=>rw[e] at h;cases h
 | some s=>
  rw[e] at h;simp only at h;by_cases g:1<=a/\a<=8
  ·by_cases f:wOk k 0 d/\wOk k 1 c/\wOk k 2 b
   ·simp only[g,f,and_self,not_true,if_false] at h
    refine⟨?_,g,f.1,f.2.1,f.2.2,s,rfl,?_⟩
    ·simp only[cn] at e
     repeat' split at e
     all_goals first|(exfalso;cases e;done)|omega
    ·cases i:b9 s a n d c b with
     |true=>rfl
     |false=>rw[i] at h;cases h
   ·simp only[g,and_self,not_true,if_false,f,not_false_iff,if_true] at h;cases h
  ·simp only[g,not_false_iff,if_true] at h;cases h
theorem Kn {k:Int} (h:4<=k/\k<24):0<ar k:=by
 simp only[ar]
 repeat' split
 all_goals omega
end
section
attribute [local congr] bu
attribute [local simp] au
theorem oI (k:Nat):((2^k:Nat):Int)=2^k:=Int.natCast_pow 2 k
theorem PY {k:Nat} (c:k<=61) (a:fB):∀m i,i+m=k->bm pg qao ⟨[(0,I k),(3,I ((2^i:Nat):Int)),(4,I i)],[],a⟩=fg ⟨[(3,I ((2^k:Nat):Int))],[],a⟩
 |0,i,h=>by
  obtain rfl:i=k:=aj;refine (bn (s1:=?J) (bg ?Z)).trans ?Y
  case Z=>simp[qan];rfl
  case Y=>simp[keep]
 | m+1,i,h=>by
  have b:(i:Int)<(k:Int):=aj;have d:2^i<=2^60:=bQ bz aj;have f:WI.wrap (2*(2:Int)^i)=(2:Int)^(i+1):=by rw[<-oI,<-oI,Nat.pow_succ];generalize 2^i=q at d;rw[aq aj aj];omega
  have e:WI.wrap ((i:Int)+1)=(i:Int)+1:=by rw[aq aj aj]
  refine ay (s1:=⟨[(0,I k),(3,I ((2^(i+1):Nat):Int)),(4,I ((i+1:Nat):Int))],[],a⟩) (bg ?K) ?V
  case K=>simp[qan,f,e,b]
  case V=>exact PY c a m (i+1) aj
theorem HG {k:Nat} (d:k<=61) (a:fB):ac pg 27 [I k] a=some (I ((2^k:Nat):Int),a):=by
 have c:=PY d a k 0 aj;refine ak (fn:=q6x) (s:=⟨[(2,I ((2^k:Nat):Int))],[],a⟩) rfl rfl (bg ?J) ?Z
 case J=>
  have b:bm pg qao ⟨[(0,I k),(3,I 1),(4,I 0)],[],a⟩=fg ⟨[(3,I ((2^k:Nat):Int))],[],a⟩:=c;simp[qfd,q6x,b,qfc]
 case Z=>simp[ag,results,q6x,ah,am,af]
theorem rk {w:Nat} (hw:1<=w/\w<=8):w=1\/w=2\/w=3\/w=4\/w=5\/w=6\/w=7\/w=8:=aj
theorem HH {A w:Nat} (hw:1<=w/\w<=8) (b:A<2^w):iM A w=if 2^(w-1)<=A then (A:Int)-((2^w:Nat):Int) else A:=by
 have c:=jf hw.2;have a:((w:Int)-1)=((w-1:Nat):Int):=aj;rw[iM,a,ot aj,ot hw.2,<-oI,<-oI,aq aj aj];by_cases h:2^(w-1)<=A
 ·rw[if_pos h,if_pos aj]
 ·rw[if_neg h,if_neg aj]
def tbl (d c b a:Int) (x y:Nat):Int:=if x=0 then (if y=0 then d else c) else (if y=0 then b else a)
end
section
variable {W A:Nat}
attribute [local congr] bu
attribute [local simp] au
theorem fA (k a b c n e d:Int) (f:W<=8):cy k W a b c n e d=dZ k a b c n e d%((2^W:Nat):Int):=by unfold cy;rw[GB f,Gy _ f,oI]
theorem ud (x:Int) (p:Nat) (h:0<=x):Int.tmod x (p:Int)=x%(p:Int):=Int.tmod_eq_emod_of_nonneg h
theorem HI (a:1<=W/\W<=8) (b:A<2^W):WI.wrap (WI.wrap (((2^W:Nat):Int)-1)-(A:Int))=mS .i64 A%((2^W:Nat):Int):=by have c:=jf a.2;rw[Gz aj,aq (n:=((2^W:Nat):Int)-1) aj aj,aq aj aj];rcases rk a with rfl|rfl|rfl|rfl|rfl|rfl|rfl|rfl<;>simp at b ⊢ <;>omega
theorem HJ (a:1<=W/\W<=8) (b:A<2^W):Int.tmod (WI.wrap (((2^W:Nat):Int)-(A:Int))) ((2^W:Nat):Int)=WI.wrap (0-(A:Int))%((2^W:Nat):Int):=by have c:=jf a.2;rw[aq aj aj,aq aj aj,ud _ _ aj];rcases rk a with rfl|rfl|rfl|rfl|rfl|rfl|rfl|rfl<;>simp at b ⊢ <;>omega
theorem HK {B:Nat} (a:1<=W/\W<=8) (c:A<2^W) (b:B<2^W):Int.tmod (WI.wrap (WI.wrap ((A:Int)+((2^W:Nat):Int))-B)) ((2^W:Nat):Int)=WI.wrap ((A:Int)-B)%((2^W:Nat):Int):=by have d:=jf a.2;rw[aq (n:=(A:Int)+((2^W:Nat):Int)) aj aj,aq aj aj,aq aj aj,ud _ _ aj];rcases rk a with rfl|rfl|rfl|rfl|rfl|rfl|rfl|rfl<;>simp at c b ⊢ <;>omega
theorem ue {x:Int} (a:0<=x) (h:x<((2^W:Nat):Int)):x%((2^W:Nat):Int)=x:=Int.emod_eq_of_lt a h
theorem HL (a:1<=W/\W<=8):WI.wrap (((2^W:Nat):Int)-1)=(-1)%((2^W:Nat):Int):=by rcases rk a with rfl|rfl|rfl|rfl|rfl|rfl|rfl|rfl<;>decide
theorem HM {B:Nat} (a:1<=W/\W<=8) (d:A<2^W):WI.wrap (Int.tdiv (A:Int) B)=WI.wrap (Int.tdiv (A:Int) B)%((2^W:Nat):Int):=by have e:=jf a.2;have c:Int.tdiv (A:Int) (B:Int)=((A/B:Nat):Int):=(Int.ofNat_tdiv _ _).symm;have b:A/B<=A:=Nat.div_le_self _ _;rw[c];generalize A/B=q at b;rw[aq aj aj,ue aj aj]
theorem HN {B:Nat} (c:A<2^W):Int.tmod (A:Int) B=Int.tmod (A:Int) B%((2^W:Nat):Int):=by have b:Int.tmod (A:Int) (B:Int)=((A%B:Nat):Int):=(Int.ofNat_tmod _ _).symm;have a:A%B<=A:=Nat.mod_le _ _;rw[b];generalize A%B=q at a;rw[ue aj aj]
theorem HO {B:Nat} (a:1<=W/\W<=8) (e:A<2^W) (d:B<W):Int.tmod (WI.wrap ((A:Int)*((2^B:Nat):Int))) ((2^W:Nat):Int)=eR .i64 A B%((2^W:Nat):Int):=by have f:=jf a.2;have c:=jf (show B<=8 by omega);have b:A*2^B<=256*256:=Nat.mul_le_mul aj c;rw[yB aj aj,<-Int.natCast_mul];generalize A*2^B=q at b;rw[aq aj aj,ud _ _ aj]
theorem HP {B b a:Nat} (f:A<2^b) (d:B<2^a) (g:b+a<=8):WI.wrap (WI.wrap ((A:Int)*((2^a:Nat):Int))+B)=iOr .i64 (eR .i64 A a) B%((2^(b+a):Nat):Int):=by
 have j:=jf (show a<=8 by omega);have i:=jf (show b<=8 by omega);have h:=jf g;have c:(A+1)*2^a<=2^b*2^a:=cY _ f;rw[<-Nat.pow_add,Nat.succ_mul] at c;rw[yB aj aj,tQ aj aj,<-Int.natCast_mul];have e:A*2^a |||B=A*2^a+B:=by rw[Nat.mul_comm,Nat.two_pow_add_eq_or_of_lt d]
 rw[e];generalize A*2^a=q at c;rw[aq (n:=(q:Int)) aj aj,aq aj aj,ue aj aj];omega
end
section
variable {xs ys x y:fS} {i n:Nat}
attribute [local congr] bu
attribute [local simp] au
def num:fS->Nat
 |[]=>0
 |b::l=>(if b then 1 else 0)+2*num l
theorem cz:∀l:fS,num l<2^l.length
 |[]=>by simp[num]
 |b::l=>by have:=cz l;rw[num,aV,Nat.pow_succ];split<;>omega
theorem jS:∀l m:fS,num (l++m)=num l+2^l.length*num m
 |[],m=>by simp[num]
 |b::l,m=>by rw[bH,num,num,jS l m,aV,Nat.pow_succ,Nat.mul_comm (2^l.length) 2,Nat.mul_assoc];omega
theorem iN:∀n:Nat,num (List.replicate n false)=0
 |0=>rfl
 |n+1=>by rw[List.replicate_succ,num,iN n];simp
theorem oJ:∀l:fS,num (l.map (!·))+num l+1=2^l.length
 |[]=>rfl
 |b::l=>by have:=oJ l;rw[bS,num,num,aV,Nat.pow_succ];cases b<;>simp<;>omega
theorem Of (l:fS) (k:Nat):num (l.take k)=num l%2^k:=by
 by_cases h:k<=l.length
 ·have e:num l=num (l.take k)+2^k*num (l.drop k):=by
   have:=jS (l.take k) (l.drop k);rw[List.take_append_drop,cR,Nat.min_eq_left h] at this;exact this
  have a:=cz (l.take k);rw[cR,Nat.min_eq_left h] at a;rw[e,Nat.add_mul_mod_self_left,cV a]
 ·rw[bK aj]
  have:=cz l;have a:2^l.length<=2^k:=bQ bz aj;rw[cV aj]
theorem zo (l:fS) (k:Nat):num (l.drop k)=num l/2^k:=by
 by_cases h:k<=l.length
 ·have e:num l=num (l.take k)+2^k*num (l.drop k):=by
   have:=jS (l.take k) (l.drop k);rw[List.take_append_drop,cR,Nat.min_eq_left h] at this;exact this
  have a:=cz (l.take k);rw[cR,Nat.min_eq_left h] at a;rw[e,Nat.add_mul_div_left _ _ (Nat.pow_pos bz),Nat.div_eq_of_lt a,cX]
 ·rw[aM aj]
  have:=cz l;have a:2^l.length<=2^k:=bQ bz aj;rw[Nat.div_eq_of_lt aj];rfl
theorem uf:∀(l:fS) (i:Nat),(l.getD i false=true)↔num l/2^i%2=1
 |[],i=>by simp[num]
 |b::l,0=>by rw[num];cases b<;>simp<;>omega
 |b::l,i+1=>by
  have:=uf l i;rw[num,Nat.pow_succ,Nat.mul_comm (2^i) 2,<-Nat.div_div_eq_div_mul];have e:((if b then 1 else 0)+2*num l)/2=num l:=by cases b<;>simp<;>omega
  rw[e,<-this];rfl
def eo:fS->fS->Bool->fS×Bool
 |x::xs,y::ys,c=>(((x ^^y) ^^c)::(eo xs ys ((x&&y)||((x ^^y)&&c))).1,(eo xs ys ((x&&y)||((x ^^y)&&c))).2)
 |_,_,c=>([],c)
theorem lg:∀{xs ys:fS} {c:Bool},xs.length=ys.length->(eo xs ys c).1.length=xs.length
 |[],[],c,_=>rfl
 |x::xs,y::ys,c,h=>by rw[eo,aV,aV,lg (by simpa using h)]
theorem rm:∀{xs ys:fS} {c:Bool},xs.length=ys.length->num (eo xs ys c).1+2^xs.length*(if (eo xs ys c).2 then 1 else 0)=num xs+num ys+(if c then 1 else 0)
 |[],[],c,_=>by cases c<;>simp[eo,num]
 |x::xs,y::ys,c,h=>by have:=rm (xs:=xs) (ys:=ys) (c:=(x&&y)||((x ^^y)&&c)) (by simpa using h);rw[eo,num,num,num,aV,Nat.pow_succ];simp only;generalize num (eo xs ys ((x&&y)||((x ^^y)&&c))).1=S,(eo xs ys ((x&&y)||((x ^^y)&&c))).2=C,2^xs.length=P at *;revert this;cases x<;>cases y<;>cases c<;>cases C<;>simp<;>omega
def iO (b a:fS):Bool:= !(eo b (a.map (!·)) true).2
def tp (b a:fS):fS:=(eo b (a.map (!·)) true).1
theorem ug (h:xs.length=ys.length):iO xs ys=decide (num xs<num ys):=by
 have a:=rm (xs:=xs) (ys:=ys.map (!·)) (c:=true) (by simpa using h);have e:=oJ ys;have d:=cz (eo xs (ys.map (!·)) true).1;rw[lg (by simpa using h)] at d;rw[h] at a d;unfold iO;cases b:(eo xs (ys.map (!·)) true).2 with
 |false=>
  rw[b] at a;simp at a;rw[aG aj];rfl
 |true=>
  rw[b] at a;simp at a;rw[aF aj];rfl
theorem rn (h:xs.length=ys.length):(tp xs ys).length=xs.length:=lg (by simpa using h)
theorem uh (h:xs.length=ys.length):num (tp xs ys)=(num xs+2^xs.length-num ys)%2^xs.length:=by
 have a:=rm (xs:=xs) (ys:=ys.map (!·)) (c:=true) (by simpa using h);have g:=oJ ys;have d:=cz (eo xs (ys.map (!·)) true).1;rw[lg (by simpa using h)] at d;have f:=cz ys;have i:=cz xs;unfold tp;rw[<-h] at g f;generalize 2^xs.length=P at *;cases b:(eo xs (ys.map (!·)) true).2 with
 |false=>
  rw[b] at a;simp at a;rw[cV aj];omega
 |true=>
  rw[b] at a;simp at a;have e:num xs+P-num ys=num (eo xs (ys.map (!·)) true).1+P:=aj;rw[e,Nat.add_mod_right,cV d]
theorem zp (h:xs.length=ys.length):num (eo xs ys false).1=(num xs+num ys)%2^xs.length:=by
 have a:=rm (xs:=xs) (ys:=ys) (c:=false) h;have b:=cz (eo xs ys false).1;rw[lg h] at b;generalize 2^xs.length=P at *;cases d:(eo xs ys false).2 with
 |false=>
  rw[d] at a;simp at a;rw[<-a,cV b]
 |true=>
  rw[d] at a;simp at a;rw[<-a,Nat.add_mod_right,cV b]
def zB (n:Nat):fS:=List.replicate n false
def d9 (c:Bool) (b a:fS):fS:=if c then b else a
def jm (x:fS) (i:Nat):fS:=zB i++x.take (x.length-i)
def jn (x:fS):Nat->fS->fS->fS
 |_,[],a=>a
 |i,c::y,a=>jn x (i+1) y (eo a (d9 c (jm x i) (zB x.length)) false).1
theorem zq (h:i<=x.length):(jm x i).length=x.length:=by simp[jm,zB];omega
theorem zr (h:i<=x.length):num (jm x i)=(2^i*num x)%2^x.length:=by unfold jm zB;rw[jS,iN,bM,cX,Of];rw[show x.length=i+(x.length-i) by omega,Nat.pow_add,Nat.add_sub_cancel_left,Nat.mul_mod_mul_left]
theorem ui {x:fS}:∀{y:fS} {i:Nat} {out:fS},out.length=x.length->i+y.length<=x.length->
  (jn x i y out).length=x.length/\num (jn x i y out)=(num out+2^i*(num x*num y))%2^x.length
 |[],i,out,h,_=>by refine⟨h,?_⟩;have:=cz out;rw[h] at this;simp[jn,num,cV this]
 | c::y,i,out,h,e=>by
  rw[aV] at e;have a:(d9 c (jm x i) (zB x.length)).length=x.length:=by
   unfold d9;cases c
   ·simp[zB]
   ·simp only[if_true];exact zq aj
  have d:num (d9 c (jm x i) (zB x.length))=(if c then 2^i*num x else 0)%2^x.length:=by
   unfold d9;cases c
   ·simp[zB,iN]
   ·simp only[if_true];exact zr aj
  have b:(eo out (d9 c (jm x i) (zB x.length)) false).1.length=x.length:=by rw[lg (by rw[h,a]),h]
  obtain⟨g,f⟩:=ui (x:=x) (y:=y) (i:=i+1) b aj;refine⟨g,?_⟩;rw[jn,f,zp (by rw[h,a]),h,d,Nat.mod_add_mod,Nat.add_assoc,Nat.add_comm (num out),Nat.add_assoc,Nat.mod_add_mod];rw[num]
  congr 1
  cases c
  ·simp[Nat.pow_succ,Nat.mul_assoc,Nat.mul_comm,Nat.mul_left_comm];omega
  ·simp only[if_true]
   rw[Nat.mul_add,Nat.mul_add,Nat.mul_one,Nat.pow_succ];have:2^i*2*(num x*num y)=2^i*(num x*(2*num y)):=by rw[Nat.mul_assoc,Nat.mul_left_comm 2 (num x)]
   omega
theorem HQ (h:y.length=x.length):num (jn x 0 y (zB x.length))=(num x*num y)%2^x.length:=by rw[(ui (x:=x) (y:=y) (i:=0) (out:=zB x.length) (by simp[zB]) aj).2];simp[zB,iN]
theorem HR (h:y.length=x.length):(jn x 0 y (zB x.length)).length=x.length:=
 (ui (x:=x) (y:=y) (i:=0) (out:=zB x.length) (by simp[zB]) aj).1
def ovS (n:Nat) (w:fS) (b:Bool) (left:fS):fS×Bool:=
 (d9 (!iO (b::left.take n) w) (tp (b::left.take n) w) (b::left.take n),!iO (b::left.take n) w)
def ovB (n:Nat) (w:fS):fS->fS×fS
 |[]=>(zB (n+1),[])
 |b::x=>((ovS n w b (ovB n w x).1).1,(ovS n w b (ovB n w x).1).2::(ovB n w x).2)
theorem ro {n:Nat} {w:fS} (hw:w.length=n+1):∀x:fS,(ovB n w x).1.length=n+1/\(ovB n w x).2.length=x.length
 |[]=>by simp[ovB,zB]
 |b::x=>by
  obtain⟨d,c⟩:=ro hw x;have a:(b::(ovB n w x).1.take n).length=n+1:=by simp[d]
  refine⟨?_,by simp[ovB,c]⟩;rw[ovB,ovS];simp only;unfold d9;split
  ·rw[rn (by rw[a,hw]),a]
  ·exact a
theorem uj {n:Nat} {y:fS} (i:y.length=n) (g:0<num y):∀x:fS,num (ovB n (y++[false]) x).1=num x%num y/\num (ovB n (y++[false]) x).2=num x/num y
 |[]=>by simp[ovB,zB,iN,num]
 | b::x=>by
  obtain⟨s,p⟩:=uj i g x;have hw:(y++[false]).length=n+1:=by simp[i]
  have c:num (y++[false])=num y:=by rw[jS];simp[num]
  obtain⟨l,u⟩:=ro hw x;have h:=cz y;rw[i] at h;have w:num x%num y<num y:=Nat.mod_lt _ g;have m:num ((ovB n (y++[false]) x).1.take n)=num x%num y:=by rw[Of,s,cV aj]
  have k:(b::(ovB n (y++[false]) x).1.take n).length=n+1:=by simp[l]
  have j:num (b::(ovB n (y++[false]) x).1.take n)=(if b then 1 else 0)+2*(num x%num y):=by rw[num,m]
  have o:(if b then 1 else 0:Nat)<=1:=by cases b<;>simp
  have d:=Nat.div_add_mod (num x) (num y);rw[ovB,ovS];simp only;rw[num,ug (by rw[k,hw]),c,j,num,p];generalize z:(if b then 1 else 0:Nat)=β,hr:num x%num y=r,v:num x/num y=q at *;by_cases f:β+2*r<num y
  ·rw[aG f]
   have e:β+2*num x=num y*(2*q)+(β+2*r):=by rw[<-d,Nat.mul_left_comm];omega
   refine⟨?_,?_⟩
   ·simp only[d9,Bool.not_true,bR,if_false]
    rw[j,e,Nat.mul_add_mod,cV f]
   ·rw[e,Nat.mul_add_div g,Nat.div_eq_of_lt f];simp
  ·rw[aF f]
   have e:β+2*num x=num y*(2*q+1)+(β+2*r-num y):=by
    have t:num y*(2*q+1)=num y*(2*q)+num y:=by rw[Nat.mul_add,Nat.mul_one]
    rw[<-d,Nat.mul_add,Nat.mul_left_comm,t];omega
   refine⟨?_,?_⟩
   ·simp only[d9,Bool.not_false,if_true]
    rw[uh (by rw[k,hw]),j,c,k,e,Nat.mul_add_mod,cV (a:=β+2*r-num y) aj];have:2^(n+1)=2*2^n:=by rw[Nat.pow_succ,Nat.mul_comm]
    rw[show β+2*r+2^(n+1)-num y=(β+2*r-num y)+2^(n+1) by omega,Nat.add_mod_right,cV aj]
   ·rw[e,Nat.mul_add_div g,Nat.div_eq_of_lt aj];simp;omega
def ku (a:Bool) (x:fS) (n:Nat):fS:=if n<x.length then (if a then zB n++x.take (x.length-n) else x.drop n++zB n) else zB x.length
def shB (a:Bool):Nat->fS->fS->fS
 |_,[],x=>x
 |i,c::y,x=>shB a (i+1) y (d9 c (ku a x (2^i)) x)
theorem uk {a:Bool}:(ku a x n).length=x.length:=by
 unfold ku;split
 ·cases a
  ·simp[zB];omega
  ·simp[zB];omega
 ·simp[zB]
theorem HS:num (ku true x n)=(num x*2^n)%2^x.length:=by
 unfold ku;split
 ·rename_i h
  have:=zr (x:=x) (i:=n) aj;rw[Nat.mul_comm];exact this
 ·rename_i h
  rw[zB,iN];rw[show n=x.length+(n-x.length) by omega,Nat.pow_add,<-Nat.mul_assoc,Nat.mul_right_comm,Nat.mul_mod_left]
theorem HT:num (ku false x n)=num x/2^n:=by
 unfold ku;have a:=cz x;split
 ·rename_i h
  simp only[bR,if_false];rw[jS,zB,iN,Nat.mul_zero,cG,zo]
 ·rename_i h
  rw[zB,iN,Nat.div_eq_of_lt];exact aO a (bQ bz aj)
theorem OJ {a:Bool}:∀{y:fS} {i:Nat} {x:fS},(shB a i y x).length=x.length
 |[],i,x=>rfl
 |c::y,i,x=>by
  rw[shB,OJ];unfold d9;split
  ·exact uk
  ·rfl
theorem zt:∀{y:fS} {i:Nat} {x:fS},num (shB true i y x)=(num x*2^(2^i*num y))%2^x.length
 |[],i,x=>by simp[shB,num,cV (cz x)]
 | c::y,i,x=>by
  rw[shB,zt,num];have e:2^i*((if c then 1 else 0)+2*num y)=(if c then 2^i else 0)+2^(i+1)*num y:=by rw[Nat.mul_add,Nat.pow_succ,Nat.mul_assoc];cases c<;>simp
  rw[e];cases c
  ·simp[d9]
  ·simp only[d9,if_true]
   rw[uk,HS,Nat.pow_add 2 (2^i),Nat.mod_mul_mod,Nat.mul_assoc]
theorem zu:∀{y:fS} {i:Nat} {x:fS},num (shB false i y x)=num x/2^(2^i*num y)
 |[],i,x=>by simp[shB,num]
 | c::y,i,x=>by
  rw[shB,zu,num];have e:2^i*((if c then 1 else 0)+2*num y)=(if c then 2^i else 0)+2^(i+1)*num y:=by rw[Nat.mul_add,Nat.pow_succ,Nat.mul_assoc];cases c<;>simp
  rw[e];cases c
  ·simp[d9]
  ·simp only[d9,if_true]
   rw[HT,Nat.pow_add 2 (2^i),Nat.div_div_eq_div_mul]
end
section
attribute [local congr] bu
attribute [local simp] au
structure BC where
 m0:PV
 m1:PV
 m2:PV
 m3:PV
 m4:PV
 bits:PV
 post:fB
def BC.g (H:BC) (a:fB) (b:Int) (A:fN):fB:=
 a++ .map (gn (byL b 0 A)):: .cells [I b,.sl true 2 (A.map andV),.mp a.length]:: .cells [fc (a.length+1) 0,H.m0,H.m1,H.m2,H.m3,H.m4,H.bits]::H.post
def BC.push (H:BC) (a:fB):BC:=⟨H.m0,H.m1,H.m2,H.m3,H.m4,H.bits,H.post++a⟩
theorem Gb (H:BC) (b a:fB):(H.push b).push a=H.push (b++a):=by simp[BC.push]
theorem fY (H:BC):H.push []=H:=by simp[BC.push]
section
variable {pre post gh:fB} {x y z:GObj}
theorem zw:(pre++x::y::post)[pre.length]?=some x:=bh
theorem zx:(pre++x::y::post)[pre.length+1]?=some y:=bh
theorem HU:(pre++x::y::post).set pre.length z=pre++z::y::post:=bh
theorem HW:(pre++x::y::post).set (pre.length+1) z=pre++x::z::post:=by simp[List.set_append_right]
end
theorem zy (a:Int):∀(j:Nat) (l:fN) (x:Int×Int),byL a j l++[(x,I (2*(1+a+((j+l.length:Nat):Int))))]=byL a j (l++[x])
 |j,[],x=>by simp[byL]
 |j,y::l,x=>by have:=zy a (j+1) l x;rw[show j+1+l.length=j+(y::l).length by simp;omega] at this;simp only[byL,bH,this]
theorem HX {ins:Int} {A:fN} {x:Int×Int} (h:x∉A):jg (byL ins 0 A) x (I (2*fJ ins A))=byL ins 0 (A++[x]):=by have a:=zy ins 0 A x;rw[cX] at a;rw[yC (by rw[tS];exact h),<-a];rfl
section
variable {pre:fB} {ins:Int} {A:fN} {H:BC}
theorem HY:(H.g pre ins A)[pre.length]?=some (.map (gn (byL ins 0 A))):=zw
theorem zz:(H.g pre ins A)[pre.length+1]?=some (.cells [I ins,.sl true 2 (A.map andV),.mp pre.length]):=zx
theorem jo:(H.g pre ins A)[pre.length+2]?=some (.cells [fc (pre.length+1) 0,H.m0,H.m1,H.m2,H.m3,H.m4,H.bits]):=by unfold BC.g;simp
theorem rq:(H.g pre ins A).length=pre.length+3+H.post.length:=by unfold BC.g;simp;omega
theorem HZ {B':fN} {a:BC} (h:a.bits=H.bits/\a.m0=H.m0/\a.m1=H.m1/\a.m2=H.m2/\a.m3=H.m3/\a.m4=H.m4):pre.length+2<(H.g pre ins A).length/\(a.g pre ins B')[pre.length+2]?=(H.g pre ins A)[pre.length+2]?:=by obtain⟨i,f,e,d,c,b⟩:=h;exact⟨by rw[rq];omega,by rw[jo,jo,i,f,e,d,c,b]⟩
theorem rt:pre.length+2<(H.g pre ins A).length:=(HZ (B':=A) ⟨rfl,rfl,rfl,rfl,rfl,rfl⟩).1
theorem zA (u:0<=ins/\ins<=1000) (w:A.length<=1000000) {a b:Int} (ha:0<=a/\a<2002002) (s:0<=b) :
  bm pg q1n ⟨[(0,fc (pre.length+1) 0),(1,I a),(2,I b)],[],H.g pre ins A⟩=fo ⟨[(6,I (e8 ins A a b).2)],[],H.g pre ins (e8 ins A a b).1⟩:=by
 by_cases l:a=0
 ·refine bg ?_
  simp[q1n,l,e8]
 by_cases f:gz .i64 a 1=b
 ·refine bg ?_
  have e:e8 ins A a b=(A,0):=by unfold e8;rw[if_pos (.inr ((qZ ha s).1 f))]
  rw[e];simp[q1n,l,f]
 have q:¬(a/2=b/2/\a≠b):=λh=>f ((qZ ha s).2 h)
 have o:e8 ins A a b=if a=1\/a=b then (A,b) else match atA A (a,b) with
  |some i=>(A,2*(1+ins+i))
  |none=>(A++[(a,b)],2*fJ ins A):=by unfold e8;exact if_neg (by rintro (h|h);exact l h;exact q h)
 by_cases k:a=1
 ·refine bg ?_
  rw[o,if_pos (.inl k)];subst k;simp[q1n,f]
 by_cases n:a=b
 ·refine bg ?_
  rw[o,if_pos (.inr n)];subst n;simp[q1n,l,f,k]
 rw[if_neg (by rintro (h|h);exact k h;exact n h)] at o;have c:kj (byL ins 0 A) (a,b)=(atA A (a,b)).map λj=>I (2*(1+ins+((0+j:Nat):Int))):=yD ins (a,b) 0 A
 cases d:atA A (a,b) with
 |some i=>
  have r:e8 ins A a b=(A,2*(1+ins+i)):=by rw[o,d]
  rw[d] at c;simp only[cK,cX] at c;rw[r];refine bg ?_;simp[q1n,l,f,k,n,zz,HY,yG,c]
 | none=>
  have r:e8 ins A a b=(A++[(a,b)],2*fJ ins A):=by rw[o,d]
  rw[d] at c;simp only[Option.map_none] at c;have t:=GJ (gh:=H.g pre ins A) u (show A.length<=1000001 by omega);unfold gu BC.g at t;have v:WI.wrap (2*fJ ins A)=2*fJ ins A:=by unfold fJ;exact aq aj aj
  have p:(A.length+1)*16<=maxBytes:=by have:=MB;omega
  have m:=HX (ins:=ins) (atA_none.1 d);rw[r];refine bg ?_;unfold BC.g;rw[<-m];simp[q1n,l,f,k,n,zw,zx,HU,HW,yG,c,t,v,p,au,yF,andV]
theorem Ia (e:0<=ins/\ins<=1000) (d:A.length<=1000000) {a b:Int} (ha:0<=a/\a<2002002) (f:0<=b/\b<2002002) :
  ac pg 49 [fc (pre.length+1) 0,I a,I b] (H.g pre ins A)=some (I (fy ins A a b).2,H.g pre ins (fy ins A a b).1):=by
 by_cases h:b<a
 ·have c:=zA (H:=H) (pre:=pre) e d f ha.1
  refine ak (fn:=q27) (s:=⟨[(6,I (fy ins A a b).2)],[],H.g pre ins (fy ins A a b).1⟩) rfl rfl (bg ?J) ?Z
  case J=>simp[q9j,q27,h,c,fy,h]
  case Z=>simp[ag,results,q27,ah,am,af]
 ·have c:=zA (H:=H) (pre:=pre) e d ha f.1
  refine ak (fn:=q27) (s:=⟨[(6,I (fy ins A a b).2)],[],H.g pre ins (fy ins A a b).1⟩) rfl rfl (bg ?Y) ?K
  case Y=>simp[q9j,q27,h,c,fy,h]
  case K=>simp[ag,results,q27,ah,am,af]
end
def Lt (a:Int) (v:fS) (A:fN) (n:Int) (b:Bool):Prop:=fF a A n=true/\db (dg (false::v) A) n=b
def Stp (a:Int) (A b:fN) (c:Nat):Prop:=cq a b=0/\b.length<=A.length+c/\∃t,b=A++t
def Ls (a:Int) (v:fS) (A:fN):fq->fS->Prop
 |[],[]=>True
 |x::c,b::d=>Lt a v A x b/\Ls a v A c d
 |_,_=>False
def fa (a:Int):Int:=gz .i64 a 1
section
variable {ins:Int} {v:fS} {A A' C:fN} {c d:Nat}
theorem Stp.refl (h:cq ins A=0):Stp ins A A 0:=⟨h,aj,[],bh⟩
theorem Stp.trans (b:Stp ins A A' c) (a:Stp ins A' C d):Stp ins A C (c+d):=by obtain⟨_,b,t,f⟩:=b;obtain⟨g,a,u,e⟩:=a;exact⟨g,aj,t++u,by rw[e,f,aT]⟩
theorem Stp.mono (h:Stp ins A A' c) (a:c<=d):Stp ins A A' d:=⟨h.1,by have:=h.2.1;omega,h.2.2⟩
theorem zC {n:Int} (h:fF ins A n=true):0<=n/\n<2*(1+ins+A.length):=by
 unfold fF fJ at h
 rwa [aH] at h
theorem Lt.mono (g:(v.length:Int)=ins) {n:Int} {b:Bool} (h:Lt ins v A n b) (s:Stp ins A A' c):Lt ins v A' n b:=by
 obtain⟨f,e⟩:=h;obtain⟨_,_,t,rfl⟩:=s;have hw:=zC f;have d:=tT (false::v) A;rw[aV] at d;refine⟨?_,?_⟩
 ·unfold fF fJ
  rw[aH,aQ];omega
 ·obtain⟨u,a⟩:=lS (dg (false::v) A) t
  rw[ua,a,t8 aj];exact e
theorem Ls.mono (b:(v.length:Int)=ins) (s:Stp ins A A' c):∀{a:fq} {d:fS},Ls ins v A a d->Ls ins v A' a d
 |[],[],_=>trivial
 |_::_,_::_,h=>⟨h.1.mono b s,Ls.mono b s h.2⟩
theorem Ls.len:∀{a:fq} {b:fS},Ls ins v A a b->b.length=a.length
 |[],[],_=>rfl
 |_::_,_::_,h=>by rw[aV,aV,Ls.len h.2]
theorem Ls.app:∀{b a:fq} {d c:fS},Ls ins v A b d->Ls ins v A a c->Ls ins v A (b++a) (d++c)
 |[],_,[],_,_,h=>h
 |_::_,_,_::_,_,h,k=>⟨h.1,Ls.app h.2 k⟩
theorem Ls.take:∀{a:fq} {b:fS} (n:Nat),Ls ins v A a b->Ls ins v A (a.take n) (b.take n)
 |[],[],n,_=>by simp[Ls]
 |_::_,_::_,0,_=>trivial
 |_::_,_::_,n+1,h=>⟨h.1,Ls.take n h.2⟩
theorem Ls.drop:∀{a:fq} {b:fS} (n:Nat),Ls ins v A a b->Ls ins v A (a.drop n) (b.drop n)
 |[],[],n,_=>by simp[Ls]
 |_::_,_::_,0,h=>h
 |_::_,_::_,n+1,h=>Ls.drop n h.2
theorem ru (d:cq ins A=0) {n:Int} {b:Bool} (h:Lt ins v A n b):0<=n/\n<2002002:=by obtain⟨c,a,_,_⟩:=dX d;exact GS c a h.1
theorem Ib {a:Int} (h:0<=a/\a<2002002):fa a=if a%2=0 then a+1 else a-1:=by
 unfold fa;split
 ·exact (qZ h aj).2 ⟨aj,aj⟩
 ·exact (qZ h aj).2 ⟨aj,aj⟩
theorem Lt.not (f:cq ins A=0) {n:Int} {b:Bool} (h:Lt ins v A n b):Lt ins v A (fa n) (!b):=by
 have hn:=ru f h;have hw:=zC h.1;have e:=Ib hn;obtain⟨g,c⟩:=h;have d:fa n/2=n/2:=by rw[e];split<;>omega
 refine⟨?_,?_⟩
 ·unfold fF fJ
  rw[aH];omega
 ·unfold db at c ⊢
  rw[d,<-c];by_cases a:n%2=1
  ·rw[aG a,aF aj];cases (dg (false::v) A).getD (n/2).toNat false<;>rfl
  ·rw[aF a,aG aj];cases (dg (false::v) A).getD (n/2).toNat false<;>rfl
theorem oO (b:0<=ins):Lt ins v A 0 false:=by
 refine⟨?_,?_⟩
 ·unfold fF fJ;rw[aH];omega
 ·obtain⟨t,a⟩:=lS (false::v) A
  unfold db;rw[a];rfl
theorem oQ (b:0<=ins):Lt ins v A 1 true:=by
 refine⟨?_,?_⟩
 ·unfold fF fJ;rw[aH];omega
 ·obtain⟨t,a⟩:=lS (false::v) A
  unfold db;rw[a];rfl
theorem Ls.zeros (a:0<=ins):∀n:Nat,Ls ins v A (List.replicate n 0) (zB n)
 |0=>trivial
 |n+1=>⟨oO a,Ls.zeros a n⟩
theorem Ls.not (b:cq ins A=0):∀{a:fq} {c:fS},Ls ins v A a c->Ls ins v A (a.map fa) (c.map (!·))
 |[],[],_=>trivial
 |_::_,_::_,h=>⟨h.1.not b,Ls.not b h.2⟩
theorem Ic (a b:Int):∃t,(fy ins A a b).1=A++t/\t.length<=1:=by
 have h:∀a b:Int,∃t,(e8 ins A a b).1=A++t/\t.length<=1:=λa b=>by
  unfold e8;split
  ·exact⟨[],bh,bh⟩
  ·split
   ·exact⟨[],bh,bh⟩
   ·split
    ·exact⟨[],bh,bh⟩
    ·exact⟨[(a,b)],bh,bh⟩
 unfold fy;split
 ·exact h b a
 ·exact h a b
end
section
variable {pre:fB} {ins:Int} {v:fS} {A:fN}
theorem kx (a:Int) (b:fB):ac pg 231 [I a] b=some (I (fa a),b):=by
 refine ak (fn:=q5g) (s:=?J) rfl rfl (bg ?Z) ?Y
 case Z=>simp[qdx,q5g];rfl
 case Y=>simp[ag,results,q5g,ah,am,af,fa]
theorem jT (c:fB) (j:(v.length:Int)=ins) (d:cq ins A=0) (q:A.length+1<=1000000) {a b:Int} {i h:Bool} (ha:Lt ins v A a i) (f:Lt ins v A b h) :
  ∃A' n,(∀H:BC,ac pg 49 [fc (c.length+1) 0,I a,I b] (H.g c ins A)=some (I n,H.g c ins A'))/\Stp ins A A' 1/\Lt ins v A' n (i&&h):=by
 obtain⟨l,k,_,_⟩:=dX d;obtain⟨t,e,r⟩:=Ic (ins:=ins) (A:=A) a b;obtain⟨p,_,o,_,m⟩:=HB d ha.1 f.1 (by rw[e,aQ];omega) j;refine⟨(fy ins A a b).1,(fy ins A a b).2,λH=>Ia l k (ru d ha) (ru d f),⟨p,by rw[e,aQ];omega,t,e⟩,o,?_⟩;rw[m,ha.2,f.2]
theorem rv (c:fB) (j:(v.length:Int)=ins) (f:cq ins A=0) (k:A.length+1<=1000000) {a b:Int} {e d:Bool} (ha:Lt ins v A a e) (m:Lt ins v A b d) :
  ∃A' n,(∀H:BC,ac pg 223 [fc (c.length+2) 0,I a,I b] (H.g c ins A)=some (I n,H.g c ins A'))/\Stp ins A A' 1/\Lt ins v A' n (e||d):=by
 obtain⟨A',n,o,h,i⟩:=jT c j f k (ha.not f) (m.not f);refine⟨A',fa n,λH=>?_,h,?_⟩
 ·have l:=o H
  refine ak (fn:=q54) (s:=?J) rfl rfl (bg ?Z) ?Y
  case Z=>simp[qdk,q54,jo,kx,l];rfl
  case Y=>simp[ag,results,q54,ah,am,af]
 ·have:=i.not h.1
  rw[show (e||d)= !(!e&& !d) by cases e<;>cases d<;>rfl];exact this
theorem rz (c:fB) (d:(v.length:Int)=ins) (j:cq ins A=0) (D:A.length+3<=1000000) {a b:Int} {f e:Bool} (ha:Lt ins v A a f) (k:Lt ins v A b e) :
  ∃A' n,(∀H:BC,ac pg 224 [fc (c.length+2) 0,I a,I b] (H.g c ins A)=some (I n,H.g c ins A'))/\Stp ins A A' 3/\Lt ins v A' n (f ^^e):=by
 obtain⟨L,C,u,h,q⟩:=jT c d j aj ha (k.not j);have F:=h.2.1;obtain⟨G,B,t,i,p⟩:=jT c d h.1 aj ((ha.not j).mono d h) (k.mono d h);have E:=i.2.1;obtain⟨z,m,r,l,o⟩:=rv c d i.1 aj (q.mono d i) p;refine⟨z,m,λH=>?_,(h.trans (i.trans l)).mono aj,?_⟩
 ·have y:=u H
  have x:=t H;have w:=r H;refine ak (fn:=q55) (s:=?J) rfl rfl (bg ?Z) ?Y
  case Z=>simp[qdl,q55,jo,kx,y,keptB,rt,List.getElem?_cons_zero,-getElem?_pos,x,w];rfl
  case Y=>simp[ag,results,q55,ah,am,af]
 ·rw[show (f ^^e)=((f&& !e)||(!f&&e)) by cases f<;>cases e<;>rfl]
  exact o
theorem Ie (d:fB) (e:(v.length:Int)=ins) (m:cq ins A=0) (G:A.length+3<=1000000) {c a b:Int} {f k j:Bool} (i:Lt ins v A c f) (ha:Lt ins v A a k) (u:Lt ins v A b j) :
  ∃A' n,(∀H:BC,ac pg 238 [fc (d.length+2) 0,I c,I a,I b] (H.g d ins A)=some (I n,H.g d ins A'))/\Stp ins A A' 3/\Lt ins v A' n (if f then k else j):=by
 obtain⟨O,F,y,h,t⟩:=jT d e m aj i ha;have M:=h.2.1;obtain⟨N,E,x,l,r⟩:=jT d e h.1 aj ((i.not m).mono e h) (u.mono e h);have L:=l.2.1;obtain⟨D,p,w,o,q⟩:=rv d e l.1 aj (t.mono e l) r;refine⟨D,p,λH=>?_,(h.trans (l.trans o)).mono aj,?_⟩
 ·have C:=y H
  have B:=x H;have z:=w H;refine ak (fn:=q5m) (s:=?J) rfl rfl (bg ?Z) ?Y
  case Z=>simp[qe4,q5m,jo,kx,C,keptB,rt,List.getElem?_cons_zero,-getElem?_pos,B,z];rfl
  case Y=>simp[ag,results,q5m,ah,am,af]
 ·rw[show (if f then k else j)=((f&&k)||(!f&&j)) by cases f<;>cases k<;>cases j<;>rfl]
  exact q
end
end
end Go.Lw