/-
  The texts that the proof stands on, part 26.
-/
import Derived.Test.YtmodipglnngghabGreatDoorDecideTextsJ
set_option linter.unusedVariables false
set_option linter.unusedSimpArgs false
set_option linter.unnecessarySimpa false

set_option maxRecDepth 100000
set_option maxHeartbeats 4000000
namespace Go.Lw
open Go
section
variable {α:Type}
abbrev R1:=Ot
def ob1 {α:Type}:Option α->(α->R1)->R1
 |some a,f=>f a
 |none,_=>none
def gdK (w:Bool) (a:Option St) (f:St->R1) (s:St):PV->R1
 | .bool b=>cond (b==w) (ob1 a f) (f s)
 | .und=>f s
 |_=>none
noncomputable def iI (a:CallF):List IOpG->(St->R1)->St->R1
 |[],k,s=>k s
 |o::l,k,s=>match o.guard with
  |none=>ob1 (ae a s o.op) (iI a l k)
  |some (g,w)=>ob1 (get s.env g) (gdK w (ae a s o.op) (iI a l k) (eQ s o.op))
def sqK (f:St->R1) (k:IExit->St->R1):IExit->St->R1
 | .normal,s=>f s
 |e,s=>k e s
def cdK (f g:St->R1) (s:St):PV->R1
 | .bool true=>f s
 | .bool false=>g s
 |_=>none
def bkK (a:Nat) (k:IExit->St->R1):IExit->St->R1
 | .exit i,s=>cond (i==a) (k .normal s) (k (.exit i) s)
 |e,s=>k e s
def poK (b:Oq) (a:Nat) (k:IExit->St->R1):IExit->St->R1
 | .normal,s=>k .normal ⟨keep a b s.env,s.lh.take a,s.gh⟩
 |e,s=>k e s
def lfK (a:Oq) (t:Nat) (k:IExit->St->R1):IExit->St->R1
 | .normal,s=>ob1 (jD a t s) (k .normal)
 |e,s=>k e s
def prK (k:IExit->St->R1) (r:IExit×St):R1:=k r.1 r.2
def fiK (e:IExit) (s:St):R1:=some (e,s)
noncomputable def evK (pg:Prg):ICode->(IExit->St->R1)->St->R1
 | .skip,k,s=>k .normal s
 | .region ops _,k,s=>iI (ac pg) ops (k .normal) s
 | .seq a b,k,s=>evK pg a (sqK (evK pg b k) k) s
 | .cond x a b,k,s=>ob1 (ai s.env x) (cdK (evK pg a k) (evK pg b k) s)
 | .block d a,k,s=>evK pg a (bkK d k) s
 | .exit i,k,s=>k (.exit i) s
 | .ret,k,s=>k .ret s
 | .post a ks nl,k,s=>evK pg a (poK ks nl k) s
 | .lift a ks t,k,s=>evK pg a (lfK ks t k) s
 | .cut a,k,s=>ob1 (ab pg a s) (prK k)
 |c,k,s=>ob1 (ab pg c s) (prK k)
theorem Gl (a:CallF) (l:List IOpG) (s:St) (k:St->R1):iI a l k s=(dt a l s).bind k:=by
 induction l generalizing s with
 |nil=>rfl
 | cons o l c=>
  have e:∀o:IOp,ob1 (ae a s o) (iI a l k)=((ae a s o).bind (dt a l)).bind k:=λo=>by
   cases ae a s o with
   |none=>rfl
   |some f=>exact c f
  rcases o with ⟨op,_|⟨g,w⟩⟩
  ·exact e op
  ·unfold iI dt
   simp only;rcases get s.env g with _|v
   ·rfl
   ·cases v<;>try rfl
    ·exact c _
    ·rename_i b
     by_cases d:b=w
     ·subst d;simpa [ob1,gdK] using e op
     ·have:(b==w)=false:=by simpa using d
      simp only[ob1,gdK,this,d,if_false,cond];exact c _
theorem Gm (pg:Prg) (c:ICode) (s:St) (k:IExit->St->R1):evK pg c k s=(ab pg c s).bind (prK k):=by
 have j:∀(o:R1),ob1 o (prK k)=o.bind (prK k):=λo=>by cases o<;>rfl
 induction c generalizing s k with
 |skip=>rw[Dv];rfl
 |region ops d=>rw[Dy,evK,Gl];cases dt (ac pg) ops s<;>rfl
 | seq a b g f=>
  rw[DA,evK,g _ _ (λo=>by cases o<;>rfl)];rcases ab pg a s with _|⟨e,s'⟩
  ·rfl
  ·cases e with
   |normal=>exact f _ _ j
   |exit i=>rfl
   |ret=>rfl
 | cond x a b g f=>
  rw[Dz,evK];rcases ai s.env x with _|v
  ·rfl
  ·cases v<;>try rfl
   rename_i c;cases c
   ·exact f _ _ j
   ·exact g _ _ j
 | block m a h=>
  rw[nO,evK,h _ _ (λo=>by cases o<;>rfl)];rcases ab pg a s with _|⟨e,s'⟩
  ·rfl
  ·cases e with
   |normal=>rfl
   |ret=>rfl
   | exit i=>
    by_cases l:i=m
    ·subst l;simp[prK,bkK]
    ·have:(i==m)=false:=by simpa using l
     simp[this,l,prK,bkK]
 |exit i=>rw[Dw];rfl
 |ret=>rw[Dx];rfl
 |post a ks nl h=>
  rw[nP,evK,h _ _ (λo=>by cases o<;>rfl)];rcases ab pg a s with _|⟨e,s'⟩
  ·rfl
  ·cases e<;>rfl
 | lift a ks t h=>
  rw[DB,evK,h _ _ (λo=>by cases o<;>rfl)];rcases ab pg a s with _|⟨e,s'⟩
  ·rfl
  ·cases e with
   |normal=>show ob1 (jD ks t s') _=((jD ks t s').map _).bind _;cases jD ks t s'<;>rfl
   |exit i=>rfl
   |ret=>rfl
 |cut a=>rw[DC];exact j _
 |_=>exact j _
theorem aa {pg:Prg} {c:ICode} {s:St} {r:R1} (h:evK pg c fiK s=r):ab pg c s=r:=by rw[Gm] at h;rw[<-h];cases ab pg c s<;>rfl
theorem evR {pg:Prg} {c:ICode} {s:St}:ab pg c s=evK pg c fiK s:=(aa rfl)
section
variable {pg:Prg} {s:St} (a b:ICode) (ops:List IOpG) (d:Bool) (x:IX) (ks:Oq) (nl:Nat)
@[simp] theorem evR_seq : ab pg (.seq a b) s = evK pg (.seq a b) fiK s := evR
@[simp] theorem evR_region : ab pg (.region ops d) s = evK pg (.region ops d) fiK s := evR
@[simp] theorem evR_cond : ab pg (.cond x a b) s = evK pg (.cond x a b) fiK s := evR
@[simp] theorem evR_po1 : ab pg (.post (.seq a b) ks nl) s = evK pg (.post (.seq a b) ks nl) fiK s := evR
@[simp] theorem evR_po2 : ab pg (.post (.region ops d) ks nl) s = evK pg (.post (.region ops d) ks nl) fiK s := evR
@[simp] theorem evR_po3 : ab pg (.post (.cond x a b) ks nl) s = evK pg (.post (.cond x a b) ks nl) fiK s := evR
end
@[simp high] theorem cond_tt (x y : α) : cond true x y = x := (rfl)
@[simp high] theorem cond_ff (x y : α) : cond false x y = y := (rfl)
theorem bu {b c:Bool} {x y:α} (h:b=c):cond b x y=cond c x y:=by rw[h]
section
variable {pg:Prg} {cf:CallF} {s:St} {k:IExit->St->R1} {kk f g:St->R1}
@[simp] theorem evK_skip : evK pg .skip k s = k .normal s := (rfl)
@[simp] theorem evK_region (a : List IOpG) (d : Bool) : evK pg (.region a d) k s = iI (ac pg) a (k .normal) s := (rfl)
@[simp] theorem evK_seq (a b : ICode) : evK pg (.seq a b) k s = evK pg a (sqK (evK pg b k) k) s := (rfl)
@[simp] theorem evK_cond (x : IX) (a b : ICode) : evK pg (.cond x a b) k s = ob1 (ai s.env x) (cdK (evK pg a k) (evK pg b k) s) := (rfl)
@[simp] theorem evK_block (b : Nat) (a : ICode) : evK pg (.block b a) k s = evK pg a (bkK b k) s := (rfl)
@[simp] theorem evK_exit (i : Nat) : evK pg (.exit i) k s = k (.exit i) s := (rfl)
@[simp] theorem evK_ret : evK pg .ret k s = k .ret s := (rfl)
@[simp] theorem evK_post (a : ICode) (c : Oq) (b : Nat) : evK pg (.post a c b) k s = evK pg a (poK c b k) s := (rfl)
@[simp] theorem evK_lift (a : ICode) (b : Oq) (t : Nat) : evK pg (.lift a b t) k s = evK pg a (lfK b t k) s := (rfl)
@[simp] theorem evK_cut (a : ICode) : evK pg (.cut a) k s = ob1 (ab pg a s) (prK k) := (rfl)
@[simp] theorem evK_loop (a : ICode) : evK pg (.loop a) k s = ob1 (ab pg (.loop a) s) (prK k) := (rfl)
@[simp] theorem opsK_nil : iI cf [] kk s = kk s := (rfl)
@[simp] theorem opsK_cons (o : IOp) (l : List IOpG) : iI cf (⟨o, none⟩ :: l) kk s = ob1 (ae cf s o) (iI cf l kk) := (rfl)
@[simp] theorem opsK_guard (o : IOp) (g : Nat) (w : Bool) (l : List IOpG) : iI cf (⟨o, some (g, w)⟩ :: l) kk s = ob1 (get s.env g) (gdK w (ae cf s o) (iI cf l kk) (eQ s o)) := (rfl)
@[simp] theorem ob1_some (a : α) (f : α -> R1) : ob1 (some a) f = f a := (rfl)
@[simp] theorem gdK_bool (w b : Bool) (a : Option St) : gdK w a f s (.bool b) = cond (b == w) (ob1 a f) (f s) := (rfl)
@[simp] theorem gdK_und (w : Bool) (a : Option St) : gdK w a f s .und = f s := (rfl)
@[simp] theorem sqK_n : sqK f k .normal s = f s := (rfl)
@[simp] theorem sqK_e (i : Nat) : sqK f k (.exit i) s = k (.exit i) s := (rfl)
@[simp] theorem sqK_r : sqK f k .ret s = k .ret s := (rfl)
@[simp] theorem cdK_b (b : Bool) : cdK f g s (.bool b) = cond b (f s) (g s) := by cases b <;> rfl
@[simp] theorem bkK_n (i : Nat) : bkK i k .normal s = k .normal s := (rfl)
@[simp] theorem bkK_e (a i : Nat) : bkK a k (.exit i) s = cond (i == a) (k .normal s) (k (.exit i) s) := (rfl)
@[simp] theorem bkK_r (i : Nat) : bkK i k .ret s = k .ret s := (rfl)
@[simp] theorem poK_n (b : Oq) (a : Nat) : poK b a k .normal s = k .normal ⟨keep a b s.env, s.lh.take a, s.gh⟩ := (rfl)
@[simp] theorem poK_e (b : Oq) (a i : Nat) : poK b a k (.exit i) s = k (.exit i) s := (rfl)
@[simp] theorem poK_r (b : Oq) (a : Nat) : poK b a k .ret s = k .ret s := (rfl)
@[simp] theorem lfK_n (a : Oq) (t : Nat) : lfK a t k .normal s = ob1 (jD a t s) (k .normal) := (rfl)
@[simp] theorem lfK_e (a : Oq) (t i : Nat) : lfK a t k (.exit i) s = k (.exit i) s := (rfl)
@[simp] theorem lfK_r (a : Oq) (t : Nat) : lfK a t k .ret s = k .ret s := (rfl)
@[simp] theorem prK_eq (e : IExit) : prK k (e, s) = k e s := (rfl)
@[simp] theorem fiK_eq (e : IExit) : fiK e s = some (e, s) := (rfl)
end
@[simp] theorem keep_nil (a : Nat) (e : List (Nat × PV)) : keep a [] e = [] := (rfl)
@[simp] theorem keep_cons (b t a : Nat) (l : Oq) (v : PV) (e : List (Nat × PV)) : keep b (t :: l) ((a, v) :: e) = match get ((a, v) :: e) t with
  |some c=>cond (bj b c) ((t,c)::keep b l ((a,v)::e)) (keep b l ((a,v)::e))
  |none=>keep b l ((a,v)::e):=by
 rw[keep];split<;>simp_all [cond_eq_ite]
@[simp] theorem dg_int (k : IntKind) (x : Int) : degr (.int k x) = .int k x := (rfl)
@[simp] theorem dg_bool (x : Bool) : degr (.bool x) = .bool x := (rfl)
@[simp] theorem dg_str (x : ByteArray) : degr (.str x) = .str x := (rfl)
@[simp] theorem dg_bs (g : Bool) (b o n z : Nat) : degr (.bs g b o n z) = .bs g b o n z := (rfl)
@[simp] theorem dg_ptr (g : Bool) (b o : Nat) : degr (.ptr g b o) = .ptr g b o := (rfl)
@[simp] theorem dg_nilp : degr (.nilp) = .nilp := (rfl)
@[simp] theorem dg_ep (e : PV) (o : Nat) : degr (.ep e o) = .ep e o := (rfl)
@[simp] theorem dg_mp (b : Nat) : degr (.mp b) = .mp b := (rfl)
@[simp] theorem dg_nilm : degr (.nilm) = .nilm := (rfl)
@[simp] theorem dg_nilf : degr (.nilf) = .nilf := (rfl)
@[simp] theorem dg_nils : degr (.nils) = .nils := (rfl)
@[simp] theorem dg_stk (b g n : Nat) : degr (.stk b g n) = .stk b g n := (rfl)
@[simp] theorem dg_pstk (b g n : Nat) : degr (.pstk b g n) = .pstk b g n := (rfl)
@[simp] theorem dg_sub (b g o n : Nat) : degr (.sub b g o n) = .sub b g o n := (rfl)
@[simp] theorem dg_fn (f : Nat) (l : Ok) : degr (.fn f l) = .fn f l := (rfl)
@[simp] theorem dg_bfn (f : Nat) (l : Ok) : degr (.bfn f l) = .bfn f l := (rfl)
@[simp] theorem dg_nilI : degr (.nilI) = .nilI := (rfl)
@[simp] theorem dg_someI : degr (.someI) = .someI := (rfl)
@[simp] theorem dg_sl (o : Bool) (z : Nat) (l : Ok) : degr (.sl o z l) = .sl false z l := (rfl)
@[simp] theorem dg_agg (l : Ok) : degr (.agg l) = .agg (l.map aw) := (rfl)
@[simp] theorem dg_tup (l : Ok) : degr (.tup l) = .tup (l.map aw) := (rfl)
@[simp] theorem dh_int (k : IntKind) (x : Int) : aw (.int k x) = .int k x := (rfl)
@[simp] theorem dh_bool (x : Bool) : aw (.bool x) = .bool x := (rfl)
@[simp] theorem dh_str (x : ByteArray) : aw (.str x) = .str x := (rfl)
@[simp] theorem dh_bs (g : Bool) (b o n z : Nat) : aw (.bs g b o n z) = .bs g b o n z := (rfl)
@[simp] theorem dh_ptr (g : Bool) (b o : Nat) : aw (.ptr g b o) = .ptr g b o := (rfl)
@[simp] theorem dh_nilp : aw (.nilp) = .nilp := (rfl)
@[simp] theorem dh_ep (e : PV) (o : Nat) : aw (.ep e o) = .ep e o := (rfl)
@[simp] theorem dh_mp (b : Nat) : aw (.mp b) = .mp b := (rfl)
@[simp] theorem dh_nilm : aw (.nilm) = .nilm := (rfl)
@[simp] theorem dh_nilf : aw (.nilf) = .nilf := (rfl)
@[simp] theorem dh_nils : aw (.nils) = .nils := (rfl)
@[simp] theorem dh_stk (b g n : Nat) : aw (.stk b g n) = .stk b g n := (rfl)
@[simp] theorem dh_pstk (b g n : Nat) : aw (.pstk b g n) = .pstk b g n := (rfl)
@[simp] theorem dh_sub (b g o n : Nat) : aw (.sub b g o n) = .sub b g o n := (rfl)
@[simp] theorem dh_fn (f : Nat) (l : Ok) : aw (.fn f l) = .fn f l := (rfl)
@[simp] theorem dh_bfn (f : Nat) (l : Ok) : aw (.bfn f l) = .bfn f l := (rfl)
@[simp] theorem dh_nilI : aw (.nilI) = .nilI := (rfl)
@[simp] theorem dh_someI : aw (.someI) = .someI := (rfl)
@[simp] theorem dh_agg (l : Ok) : aw (.agg l) = .agg l := (rfl)
@[simp] theorem dh_tup (l : Ok) : aw (.tup l) = .tup l := (rfl)
@[simp] theorem dh_sl (o : Bool) (z : Nat) (l : Ok) : aw (.sl o z l) = .sl false z l := (rfl)
@[simp] theorem ce_int (k : IntKind) (x : Int) : PV.cells (.int k x) = [.int k x] := (rfl)
@[simp] theorem ce_bool (x : Bool) : PV.cells (.bool x) = [.bool x] := (rfl)
@[simp] theorem ce_str (x : ByteArray) : PV.cells (.str x) = [.str x] := (rfl)
@[simp] theorem ce_bs (g : Bool) (b o n z : Nat) : PV.cells (.bs g b o n z) = [.bs g b o n z] := (rfl)
@[simp] theorem ce_ptr (g : Bool) (b o : Nat) : PV.cells (.ptr g b o) = [.ptr g b o] := (rfl)
@[simp] theorem ce_nilp : PV.cells (.nilp) = [.nilp] := (rfl)
@[simp] theorem ce_ep (e : PV) (o : Nat) : PV.cells (.ep e o) = [.ep e o] := (rfl)
@[simp] theorem ce_mp (b : Nat) : PV.cells (.mp b) = [.mp b] := (rfl)
@[simp] theorem ce_nilm : PV.cells (.nilm) = [.nilm] := (rfl)
@[simp] theorem ce_nilf : PV.cells (.nilf) = [.nilf] := (rfl)
@[simp] theorem ce_nils : PV.cells (.nils) = [.nils] := (rfl)
@[simp] theorem ce_stk (b g n : Nat) : PV.cells (.stk b g n) = [.stk b g n] := (rfl)
@[simp] theorem ce_pstk (b g n : Nat) : PV.cells (.pstk b g n) = [.pstk b g n] := (rfl)
@[simp] theorem ce_sub (b g o n : Nat) : PV.cells (.sub b g o n) = [.sub b g o n] := (rfl)
@[simp] theorem ce_fn (f : Nat) (l : Ok) : PV.cells (.fn f l) = [.fn f l] := (rfl)
@[simp] theorem ce_bfn (f : Nat) (l : Ok) : PV.cells (.bfn f l) = [.bfn f l] := (rfl)
@[simp] theorem ce_nilI : PV.cells (.nilI) = [.nilI] := (rfl)
@[simp] theorem ce_someI : PV.cells (.someI) = [.someI] := (rfl)
@[simp] theorem ce_sl (o : Bool) (z : Nat) (l : Ok) : PV.cells (.sl o z l) = [.sl o z l] := (rfl)
@[simp] theorem ce_agg (l : Ok) : PV.cells (.agg l) = l := (rfl)
def jI (k:IntKind) (a b:Int):Int:=k.wrap (BitVec.ofInt k.bits a &&&BitVec.ofInt k.bits b).toNat
def iOr (k:IntKind) (a b:Int):Int:=k.wrap (BitVec.ofInt k.bits a |||BitVec.ofInt k.bits b).toNat
def gz (k:IntKind) (a b:Int):Int:=k.wrap (BitVec.ofInt k.bits a ^^^BitVec.ofInt k.bits b).toNat
def eR (k:IntKind) (a b:Int):Int:=k.wrap (a*2^(min b.toNat k.bits))
def kg (k:IntKind) (a b:Int):Int:=a.fdiv (2^(min b.toNat k.bits))
def mS (k:IntKind) (n:Int):Int:=k.wrap (BitVec.ofInt k.bits (if k.signed then -1 else k.max) ^^^BitVec.ofInt k.bits n).toNat
section
variable {kd:IntKind} {a b:Int}
@[simp] theorem bp_add : dj .add (.int kd a) (.int kd b) = some (.int kd (kd.wrap (a + b))) := by simp only [dj, if_true] <;> rfl
@[simp] theorem bp_sub : dj .sub (.int kd a) (.int kd b) = some (.int kd (kd.wrap (a - b))) := by simp only [dj, if_true] <;> rfl
@[simp] theorem bp_mul : dj .mul (.int kd a) (.int kd b) = some (.int kd (kd.wrap (a * b))) := by simp only [dj, if_true] <;> rfl
@[simp] theorem bp_and : dj .and (.int kd a) (.int kd b) = some (.int kd (jI kd a b)) := by simp only [dj, if_true] <;> rfl
@[simp] theorem bp_or : dj .or (.int kd a) (.int kd b) = some (.int kd (iOr kd a b)) := by simp only [dj, if_true] <;> rfl
@[simp] theorem bp_xor : dj .xor (.int kd a) (.int kd b) = some (.int kd (gz kd a b)) := by simp only [dj, if_true] <;> rfl
@[simp] theorem bp_eql : dj .eql (.int kd a) (.int kd b) = some (.bool (a == b)) := by simp only [dj, if_true] <;> rfl
@[simp] theorem bp_neq : dj .neq (.int kd a) (.int kd b) = some (.bool (a != b)) := by simp only [dj, if_true] <;> rfl
@[simp] theorem bp_lss : dj .lss (.int kd a) (.int kd b) = some (.bool (decide (a < b))) := by simp only [dj, if_true] <;> rfl
@[simp] theorem bp_leq : dj .leq (.int kd a) (.int kd b) = some (.bool (decide (a <= b))) := by simp only [dj, if_true] <;> rfl
@[simp] theorem bp_gtr : dj .gtr (.int kd a) (.int kd b) = some (.bool (decide (b < a))) := by simp only [dj, if_true] <;> rfl
@[simp] theorem bp_geq : dj .geq (.int kd a) (.int kd b) = some (.bool (decide (b <= a))) := by simp only [dj, if_true] <;> rfl
@[simp] theorem bp_quo : dj .quo (.int kd a) (.int kd b) = if b = 0 then none else some (.int kd (kd.wrap (a.tdiv b))) := by simp only [dj, if_true]
@[simp] theorem bp_rem : dj .rem (.int kd a) (.int kd b) = if b = 0 then none else some (.int kd (a.tmod b)) := by simp only [dj, if_true]
@[simp] theorem bp_shl (c : IntKind) : dj .shl (.int kd a) (.int c b) = if 0 <= b then some (.int kd (eR kd a b)) else none := by
 show (if b<0 then none else _)=_;by_cases h:b<0
 ·rw[if_pos h,if_neg NW]
 ·rw[if_neg h,if_pos NW];rfl
@[simp] theorem bp_shr (c : IntKind) : dj .shr (.int kd a) (.int c b) = if 0 <= b then some (.int kd (kg kd a b)) else none := by
 show (if b<0 then none else _)=_;by_cases h:b<0
 ·rw[if_pos h,if_neg NW]
 ·rw[if_neg h,if_pos NW];rfl
@[simp] theorem up_neg : mn .neg (.int kd a) = some (.int kd (kd.wrap (0 - a))) := (rfl)
@[simp] theorem up_xor : mn .xor (.int kd a) = some (.int kd (mS kd a)) := (rfl)
@[simp] theorem up_not (x : Bool) : mn .not (.bool x) = some (.bool (!x)) := (rfl)
@[simp] theorem bp_sadd (a b : ByteArray) : dj .add (.str a) (.str b) = if ((a.size + b.size : Nat) : Int) > IntKind.i64.max then none else some (.str (a ++ b)) := (rfl)
@[simp] theorem bp_seql (a b : ByteArray) : dj .eql (.str a) (.str b) = some (.bool (a.toList == b.toList)) := (rfl)
@[simp] theorem bp_sneq (a b : ByteArray) : dj .neq (.str a) (.str b) = some (.bool (!(a.toList == b.toList))) := (rfl)
@[simp] theorem fl_int : co (.int kd a) = true := (rfl)
@[simp] theorem fl_bool (x : Bool) : co (.bool x) = true := (rfl)
end
attribute [simp] ae
@[simp] theorem stay_nils (a : Nat) : bj a (.nils) = true := rfl
@[simp] theorem stay_ep (a : Nat) (e : PV) (o : Nat) : bj a (.ep e o) = true := rfl
@[simp] theorem stay_pstk (a : Nat) (b g k : Nat) : bj a (.pstk b g k) = true := rfl
@[simp] theorem stay_nilm (a : Nat) : bj a (.nilm) = true := rfl
@[simp] theorem stay_nilf (a : Nat) : bj a (.nilf) = true := rfl
@[simp] theorem stay_nilI (a : Nat) : bj a (.nilI) = true := rfl
@[simp] theorem stay_someI (a : Nat) : bj a (.someI) = true := rfl
@[simp] theorem stay_tup (a : Nat) (l : Ok) : bj a (.tup l) = true := rfl
def hr (a:Ol) (b:Nat):Option GObj:=a[b]?
def hw (a:Ol) (b:Nat) (o:GObj):Ol:=a.set b o
def ha (a:Ol) (o:GObj):Ol:=a++[o]
abbrev hn (a:Ol):Nat:=a.length
theorem fq (a:Ol) (b:Nat):a[b]?=hr a b:=(rfl)
theorem ft (a:Ol) (b:Nat) (o:GObj):a.set b o=hw a b o:=(rfl)
theorem fw (a:Ol) (o:GObj):a++[o]=ha a o:=(rfl)
theorem kh {a:Ol} {b:Nat} {o:GObj} (h:hr a b=some o):b<hn a:=by have:=(aD.1 (show a[b]?=some o from h)).1;exact this
@[simp] theorem tK (a : Ol) (b : Nat) (o : GObj) : hn (hw a b o) = hn a := cM ..
@[simp] theorem gA (a : Ol) (o : GObj) : hn (ha a o) = hn a + 1 := aQ ..
theorem qV (a:Ol) (b c:Nat) (o:GObj):hr (hw a b o) c=if b=c then (hr a b).map (λ_=>o) else hr a c:=by
 show (a.set b o)[c]?=_
 rw[cL];by_cases h:b=c
 ·subst h
  rw[if_pos rfl,if_pos rfl];by_cases d:b<a.length
  ·rw[if_pos d,show hr a b=some a[b] from aA d];rfl
  ·rw[if_neg d,show hr a b=none from List.getElem?_eq_none NW];rfl
 ·rw[if_neg h,if_neg h];rfl
theorem oq (a:Ol) (o:GObj) (b:Nat):hr (ha a o) b=if b=hn a then some o else hr a b:=by
 show (a++[o])[b]?=_
 by_cases h:b=hn a
 ·subst h;rw[if_pos rfl];show (a++[o])[a.length]?=_;simp only[List.getElem?_concat_length]
 ·rw[if_neg h]
  by_cases c:b<a.length
  ·exact aI c
  ·have:b≠a.length:=h
   rw[List.getElem?_eq_none (by rw[aQ];simp only[aV,cF];omega)];exact (List.getElem?_eq_none NW).symm
@[simp] theorem qW (a : Ol) (b : Nat) (o : GObj) : hr (hw a b o) b = (hr a b).map (λ_ => o) := by rw [qV, if_pos rfl]
@[simp] theorem kW (a : Ol) (o : GObj) : hr (ha a o) (hn a) = some o := by rw [oq, if_pos rfl]
@[simp] theorem tL (a : Ol) (o p : GObj) : hw (ha a o) (hn a) p = ha a p := by
 show (a++[o]).set a.length p=a++[p]
 rw[List.set_append_right _ _ (cU _)];simp only[Nat.sub_self,List.set_cons_zero]
@[simp] theorem hw_hw (a : Ol) (b : Nat) (o p : GObj) : hw (hw a b o) b p = hw a b p := List.set_set ..
section
variable (e:Oo) (n:Nat) (v:PV) (gh:Ol)
@[simp] theorem evalX_t : ai e (.t n) = (get e n).map degr := (rfl)
@[simp] theorem evalX_c : ai e (.c v) = some (degr v) := (rfl)
@[simp] theorem evalX_f : ai e (.f n) = some (.fn n []) := (rfl)
@[simp] theorem evalK_t : gG e (.t n) = (get e n).map degr := (rfl)
@[simp] theorem evalK_c : gG e (.c v) = some v := (rfl)
@[simp] theorem evalK_f : gG e (.f n) = some (.fn n []) := (rfl)
@[simp] theorem takeX_t : eL e (.t n) = (get e n).map λv => (v, Lw.put e n (degr v)) := (rfl)
@[simp] theorem takeX_c : eL e (.c v) = some (v, e) := (rfl)
@[simp] theorem takeX_f : eL e (.f n) = some (.fn n [], e) := (rfl)
@[simp] theorem elsOf_sl (o : Bool) (l : Ok) : gH gh (.sl o 1 l) = some l := (rfl)
@[simp] theorem elsOf_nils : gH gh .nils = some [] := (rfl)
@[simp] theorem Gp (b g k : Nat) : gH gh (.stk b g k) = match gh[b]? with
  |some (.stk c a)=>if c=g/\k<=a.length then some (a.take k) else none
  |_=>none:=(rfl)
@[simp] theorem elsOf_sub (b g o k : Nat) : gH gh (.sub b g o k) = match gh[b]? with
  |some (.stk c a)=>if c=g/\o+k<=a.length then some ((a.drop o).take k) else none
  |_=>none:=(rfl)
end
attribute [simp] fk get Lw.put ct iW iX dN jC eO St.cellsAt St.setCells dD bq eQ eF j5 jB fj j6 kG St.newBox jD
def jJ:PV->Option Int
 | .sl _ _ a=>some a.length
 | .bs _ _ _ n _=>some n
 | .stk _ _ n=>some n
 | .sub _ _ _ n=>some n
 | .nils=>some (0:Nat)
 |_=>none
@[simp] theorem op_len (s : St) (d : Nat) (x : IX) : iY s d 0 x = (ai s.env x).bind λv => (jJ v).map λn => s.put d (.int .i64 n) := by
 unfold iY;rcases ai s.env x with _|v
 ·rfl
 ·cases v<;>rfl
@[simp] theorem op_lenS (s : St) (d : Nat) (x : IX) : iY s d 1 x = (ai s.env x).bind λv => match v with
  | .str b=>some (s.put d (.int .i64 b.size))
  |_=>none:=by
 unfold iY;rcases ai s.env x with _|v
 ·rfl
 ·cases v<;>rfl
@[simp] theorem op_lenM (s : St) (d : Nat) (x : IX) : iY s d 2 x = (ai s.env x).bind λv => match v with
  | .mp b=>match s.gh[b]? with
   |some (.map a)=>some (s.put d (.int .i64 a.length))
   |_=>none
  |_=>none:=by
 unfold iY;rcases ai s.env x with _|v
 ·rfl
 ·cases v<;>rfl
def tM (a:Ol):PV->Option (List (PV×PV))
 | .mp b=>match a[b]? with
  |some (.map c)=>some c
  |_=>none
 |_=>none
@[simp] theorem mapOf_mp (a : Ol) (b : Nat) : tM a (.mp b) = match a[b]? with
  |some (.map c)=>some c
  |_=>none:=rfl
theorem Gq (s:St) (d e:Nat) (m k:IX) (ok:Bool) (z:PV):nL s d e m k ok z=(ai s.env m).bind λa=>(ai s.env k).bind λc=>(tM s.gh a).bind λf=>if eS e c=false then none else (eD e f c).map λo=>
  s.put d (if ok then .tup [o.getD (degr z),.bool o.isSome] else o.getD (degr z)):=by
 unfold nL;rcases ai s.env m with _|a
 ·rfl
 rcases ai s.env k with _|c
 ·cases a<;>rfl
 cases a<;>try rfl
 rename_i b;simp only[cH,tM];rcases s.gh[b]? with _|o
 ·rfl
 cases o<;>try rfl
 simp only[cH];split
 ·rfl
 ·rcases eD e _ c with _|_|v<;>rfl
attribute [simp] Gq
def apL (d:Ol) (a:Nat) (h:PV) (c:Ok):PV->Option (Ol×PV)
 | .stk b e n=>match d[b]? with
  | some (.stk g f)=>if g=e/\n<=f.length/\(n+c.length)*a<=maxBytes/\fO b h=true/\c.all co=true then
    some (d.set b (.stk (g+1) (f.take n++c)),.stk b (g+1) (n+c.length)) else none
  |_=>none
 | .nils=>if c≠[]/\c.length*a<=maxBytes/\c.all co=true then some (d++[.stk 0 c],.stk d.length 0 c.length) else none
 |_=>none
theorem Gs (s:St) (d a:Nat) (e x:IX):lA s d a e x=(ai s.env x).bind λc=>(gH s.gh c).bind λf=>(ai s.env e).bind λv=>(apL s.gh a c f v).map λp=>⟨Lw.put s.env d p.2,s.lh,p.1⟩:=by
 unfold lA
 congr 1;funext c;congr 1;funext f
 rcases ai s.env e with _|v
 ·rfl
 ·cases v with
  | stk b g n=>
   simp only[apL,cH];rcases s.gh[b]? with _|o
   ·rfl
   ·cases o<;>try rfl
    simp only;split<;>rfl
  |nils=>simp only[apL,cH];split<;>rfl
  |_=>rfl
attribute [simp] Gs
section
variable (gh:Ol) (b g n o z:Nat) (l:Ok)
@[simp] theorem lenV_sl (o : Bool) : jJ (.sl o z l) = some l.length := (rfl)
@[simp] theorem lenV_bs (q : Bool) : jJ (.bs q b o n z) = some n := (rfl)
@[simp] theorem lenV_stk : jJ (.stk b g n) = some n := (rfl)
@[simp] theorem lenV_sub : jJ (.sub b g o n) = some n := (rfl)
@[simp] theorem lenV_nils : jJ .nils = some 0 := (rfl)
@[simp] theorem apL_stk (m : Nat) (c : PV) : apL gh m c l (.stk b g n) = match gh[b]? with
  | some (.stk a d)=>if a=g/\n<=d.length/\(n+l.length)*m<=maxBytes/\fO b c=true/\l.all co=true then
    some (gh.set b (.stk (a+1) (d.take n++l)),.stk b (a+1) (n+l.length)) else none
  |_=>none:=(rfl)
@[simp] theorem apL_nils (m : Nat) (a : PV) : apL gh m a l .nils = if l ≠ [] /\ l.length * m <= maxBytes /\ l.all co = true then some (gh ++ [.stk 0 l], .stk gh.length 0 l.length) else none := (rfl)
end
@[simp] theorem put_mk (e : List (Nat × PV)) (l : List Ok) (g : Ol) (t : Nat) (v : PV) : St.put ⟨e, l, g⟩ t v = ⟨Lw.put e t v, l, g⟩ := (rfl)
theorem ip {pg:Prg} {f:Nat} {fn:IFunc} {a:Ok} {b:Ol} {e:IExit} {s:St} (h:pg f=some (.code fn)) (c:a.length=fn.np) (hr:ab pg fn.body ⟨fk 0 a,[],b⟩=some (e,s)) :
  ac pg f a b=ag fn b (e,s):=by
 rw[Du];unfold du;rw[h];simp[c,hr]
theorem ak {pg:Prg} {f:Nat} {fn:IFunc} {b:Ok} {c a:Ol} {s:St} {v:PV} (h:pg f=some (.code fn)) (d:b.length=fn.np) (hr:ab pg fn.body ⟨fk 0 b,[],c⟩=Oh s)
  (e:ag fn c (.ret,s)=some (v,a)):ac pg f b c=some (v,a):=by
 rw[ip h d hr];exact e
theorem ay {a:Nat} {pg:Prg} {b:ICode} {d:Nat} {c:Oq} {s s1:St} {r:Ot} (h:ab pg b s=Og s1) (e:ab pg (.post (.block d (.loop b)) c a) s1=r):ab pg (.post (.block d (.loop b)) c a) s=r:=by rw[<-e,nP,nO,sB,h,nP,nO]
theorem bn {a:Nat} {pg:Prg} {b:ICode} {d:Nat} {c:Oq} {s s1:St} (h:ab pg b s=some (.exit d,s1)):ab pg (.post (.block d (.loop b)) c a) s=Og ⟨keep a c s1.env,s1.lh.take a,s1.gh⟩:=by rw[nP,nO,sB,h];simp
theorem cx {a:Nat} {pg:Prg} {b:ICode} {d:Nat} {c:Oq} {s s1:St} (h:ab pg b s=Oh s1):ab pg (.post (.block d (.loop b)) c a) s=Oh s1:=by rw[nP,nO,sB,h]
theorem lQ {l:Ok} (h:l.all az=true):l.all az=true:=h
end
section
variable {xs:Oi} {c:Nat} {caps:Ok} {gh:Ol} {p:Int->Bool}
theorem Gt (b:Int) (a:Om) (c:Ol):ac pg 88 [gu b a] c=some (I (WI.wrap (WI.wrap (1+b)+a.length)),c):=by rw[ip (fn:=q60) (s:=⟨[(2,I (WI.wrap (WI.wrap (1+b)+a.length)))],[],c⟩) (e:= .ret) rfl rfl (aa (by simp[qef,q60,gu]))];simp[ag,results,q60,ah,am,af,az,PV.one,PV.noG]
theorem yA {a:Oi} {c:Nat} {e:Ok} {f:Ol} {p:Int->Bool} (g:∀x∈a,ac pg c (I x::e) f=some (B (p x),f)) (d:e.all az=true) (n:Sz a.length) :
  ∀k i,i+k=a.length->ab pg qek ⟨[(0,LI a),(1,.fn c e),(7,I a.length),(8,I i)],[],f⟩=
   match (a.drop i).findIdx? p with
   |some j=>Oh ⟨[(4,I ((i+j:Nat)))],[],f⟩
   |none=>Og ⟨[],[],f⟩
 |0,i,h=>by
  rw[aM NW];refine (bn (s1:=?J) (aa ?Z)).trans ?Y
  case Z=>simp[q67,show i=a.length by omega];rfl
  case Y=>simp[keep]
 | k+1,i,h=>by
  have b:i<a.length:=NW;have l:a[i]?=some a[i]:=aA b;rw[aJ b,List.findIdx?_cons];cases m:p a[i] with
  |true=>
   refine (cx (s1:=?K) (aa ?V)).trans ?W
   case V=>simp[q67,b,l,lQ d,g a[i] (cD b),m];rfl
   case W=>simp
  | false=>
   refine ay (s1:=?Ja) (aa ?Jb) ?Jc
   case Jb=>simp[q67,b,l,lQ d,g a[i] (cD b),m];rfl
   case Jc=>
    rw[gv NW];refine (yA g d n k (i+1) NW).trans ?_;cases (a.drop (i+1)).findIdx? p<;>simp;omega
theorem Gu (f:∀x∈xs,ac pg c (I x::caps) gh=some (B (p x),gh)) (b:caps.all az=true) (e:Sz xs.length) :
  ac pg 111 [LI xs,.fn c caps] gh=some (I (match xs.findIdx? p with|some j=>(j:Int)|none=> -1),gh):=by
 have a:=yA f b e xs.length 0 NW;simp only[bJ,cV,aR] at a;cases d:xs.findIdx? p with
 |some j=>
  rw[d] at a;refine ak (fn:=q28) (s:=?J) rfl rfl (aa ?Z) ?Y
  case Z=>simp[q9m,q28,a];rfl
  case Y=>simp[ag,results,q28,ah,am,af,az,PV.one,PV.noG]
 |none=>
  rw[d] at a;refine ak (fn:=q28) (s:=?K) rfl rfl (aa ?V) ?W
  case V=>simp[q9m,q28,a,qel];rfl
  case W=>simp[ag,results,q28,ah,am,af,az,PV.one,PV.noG]
theorem tN (h:∀x∈xs,ac pg c (I x::caps) gh=some (B (p x),gh)) (a:caps.all az=true) (f:Sz xs.length) :
  ac pg 86 [LI xs,.fn c caps] gh=some (B (xs.any p),gh):=by
 refine ak (fn:=q63) (s:=?J) rfl rfl (aa ?Z) ?Y
 case Z=>simp[qeg,q63,Gu h a f];rfl
 case Y=>
  have:(decide (0<=(match xs.findIdx? p with|some j=>(j:Int)|none=> -1)))=xs.any p:=by
   cases d:xs.findIdx? p with
   |some j=>
    have:=List.findIdx?_eq_some_iff_getElem.1 d;obtain⟨g,b,_⟩:=this;simp only[Int.natCast_nonneg,decide_true];exact (List.any_eq_true.2 ⟨_,cD g,b⟩).symm
   |none=>
    have:=List.findIdx?_eq_none_iff.1 d;simp only[show decide ((0:Int)<= -1)=false by decide];exact (List.any_eq_false.2 λx e=>by simp[this x e]).symm
  simp[ag,results,q63,ah,am,af,az,PV.one,PV.noG,this]
end
section
variable {A w b:Nat}
theorem Gv (x:Int):WI.wrap x=(x+9223372036854775808)%18446744073709551616-9223372036854775808:=by simp only[IntKind.wrap,IntKind.bits,IntKind.signed];simp;omega
theorem ki (h:A<18446744073709551616):(BitVec.ofInt 64 (A:Int)).toNat=A:=by rw[BitVec.toNat_ofInt];omega
theorem tP {B:Nat} (ha:A<65536) (a:B<65536):jI .i64 A B=((A &&&B:Nat):Int):=by
 have:A &&&B<65536:=Nat.and_lt_two_pow (n:=16) A a;unfold jI;rw[BitVec.toNat_and]
 show WI.wrap (((BitVec.ofInt 64 (A:Int)).toNat &&&(BitVec.ofInt 64 (B:Int)).toNat:Nat):Int)=_
 rw[ki NW,ki NW];exact aq NW NW
theorem tQ {B:Nat} (ha:A<65536) (a:B<65536):iOr .i64 A B=((A |||B:Nat):Int):=by
 have:A |||B<65536:=Nat.or_lt_two_pow (n:=16) ha a
 unfold iOr;rw[BitVec.toNat_or]
 show WI.wrap (((BitVec.ofInt 64 (A:Int)).toNat |||(BitVec.ofInt 64 (B:Int)).toNat:Nat):Int)=_
 rw[ki NW,ki NW];exact aq NW NW
theorem Gw {B:Nat} (ha:A<65536) (a:B<65536):gz .i64 A B=((A ^^^B:Nat):Int):=by
 have:A ^^^B<65536:=Nat.xor_lt_two_pow (n:=16) ha a;unfold gz;rw[BitVec.toNat_xor]
 show WI.wrap (((BitVec.ofInt 64 (A:Int)).toNat ^^^(BitVec.ofInt 64 (B:Int)).toNat:Nat):Int)=_
 rw[ki NW,ki NW];exact aq NW NW
theorem Gx (hw:w<=8):1<=(2:Int)^w/\(2:Int)^w<=256:=by have:∀v:Fin 9,1<=(2:Int)^v.val/\(2:Int)^v.val<=256:=NY;exact this ⟨w,NW⟩
theorem tR {B:Nat} (ha:A<1099511627776):(gz .i64 (A:Int) 1=(B:Int))↔(A/2=B/2/\A≠B):=by
 have f:A ^^^1<1099511627776:=Nat.xor_lt_two_pow (n:=40) ha NY;have e:gz .i64 (A:Int) 1=((A ^^^1:Nat):Int):=by
  unfold gz;rw[BitVec.toNat_xor]
  show WI.wrap (((BitVec.ofInt 64 (A:Int)).toNat ^^^(BitVec.ofInt 64 ((1:Nat):Int)).toNat:Nat):Int)=_
  rw[ki NW,ki NW];exact aq NW NW
 rw[e];have c:(A ^^^1)/2=A/2:=by rw[Nat.xor_div_two];simp
 have d:(A ^^^1)%2=(A+1)%2:=by have h:=Nat.xor_mod_two_pow (a:=A) (b:=1) (n:=1);simp at h;rw[h];have:A%2=0\/A%2=1:=NW;rcases this with c|c<;>rw[c]<;>simp<;>omega
 generalize A ^^^1=X at *;omega
theorem Gy (x:Int) (hw:w<=8):jI .i64 x (2^w-1:Int)=x%(2^w:Int):=by
 have g:(2:Nat)^w<=2^8:=bQ NY hw;have d:1<=(2:Nat)^w:=Nat.one_le_two_pow;have e:(2^w-1:Int)=((2^w-1:Nat):Int):=by rw[Int.natCast_sub d];simp
 unfold jI;rw[BitVec.toNat_and,e]
 show WI.wrap (((BitVec.ofInt 64 x).toNat &&&(BitVec.ofInt 64 ((2^w-1:Nat):Int)).toNat:Nat):Int)=_
 rw[ki NW,Nat.and_two_pow_sub_one_eq_mod,BitVec.toNat_ofInt];have c:(2:Nat)^w ∣ 18446744073709551616:=Nat.pow_dvd_pow (n:=64) 2 NW;have f:(x%18446744073709551616).toNat%2^w<2^w:=Nat.mod_lt _ NW
 show WI.wrap ((((x%((2^64:Nat):Int)).toNat%2^w:Nat)):Int)=_
 rw[show ((2^64:Nat):Int)=18446744073709551616 from rfl,aq NW NW];rw[Int.natCast_emod,Int.toNat_of_nonneg (Int.emod_nonneg _ NY)];have b:((2^w:Nat):Int) ∣ ((18446744073709551616:Nat):Int):=Int.natCast_dvd_natCast.2 c;have a:=Int.emod_emod_of_dvd x b;rw[Int.natCast_pow] at a ⊢;exact a
theorem ot (hw:w<=8):eR .i64 1 (w:Int)=2^w:=by have:∀v:Fin 9,eR .i64 1 (v.val:Int)=2^v.val:=NY;exact this ⟨w,NW⟩
theorem Gz (h:A<256):mS .i64 (A:Int)= -1-A:=by
 have:∀v:Fin 256,mS .i64 (v.val:Int)= -1-v.val:=by decide +kernel
 exact this ⟨A,h⟩
theorem GA (x:Int) (hw:w<=8):(WI.wrap x)%(2^w:Int)=x%(2^w:Int):=by rw[Gv];have:w=0\/w=1\/w=2\/w=3\/w=4\/w=5\/w=6\/w=7\/w=8:=NW;rcases this with rfl|rfl|rfl|rfl|rfl|rfl|rfl|rfl|rfl<;>simp<;>omega
theorem GB (hw:w<=8):WI.wrap (eR .i64 1 (w:Int)-1)=2^w-1:=by rw[ot hw];have:=Gx hw;exact aq NW NW
theorem GC (hw:w<=8) (a:w<=b):eR .i64 (A:Int) (b:Int)%(2^w:Int)=0:=by
 unfold eR;rw[GA _ hw];have:(2:Int)^w ∣ (A:Int)*2^(min (b:Int).toNat 64):=by refine Int.dvd_trans ?_ (Int.dvd_mul_left _ _);exact⟨2^(min (b:Int).toNat 64-w),by rw[<-Int.pow_add];congr 1;simp;omega⟩
 exact Int.emod_eq_zero_of_dvd this
theorem jf (hw:w<=8):(2:Nat)^w<=256:=bQ (n:=2) NY hw
theorem yB (ha:A<256) (a:b<=8):eR .i64 (A:Int) (b:Int)=(A*2^b:Nat):=by
 unfold eR;have c:=jf a;have d:A*2^b<=256*256:=Nat.mul_le_mul NW c;have e:(A:Int)*2^(min (b:Int).toNat IntKind.i64.bits)=((A*2^b:Nat):Int):=by
  have:min (b:Int).toNat IntKind.i64.bits=b:=by
   show min (b:Int).toNat 64=b
   simp;omega
  rw[this];simp
 rw[e];exact aq NW NW
theorem qX (A b:Nat) (ha:A<2^64):kg .i64 (A:Int) (b:Int)=(A/2^b:Nat):=by
 unfold kg;rw[show min (b:Int).toNat IntKind.i64.bits=min b 64 by simp[IntKind.bits]];by_cases h:b<=64
 ·rw[Nat.min_eq_left h,Int.fdiv_eq_ediv_of_nonneg _ (Int.pow_nonneg NY)]
  simp
 ·rw[Nat.min_eq_right NW,Int.fdiv_eq_ediv_of_nonneg _ (Int.pow_nonneg NY)]
  have a:A<2^b:=aO ha (bQ NY NW);rw[Nat.div_eq_of_lt a];have e:(2:Int)^64=((2^64:Nat):Int):=NX;rw[e,<-Int.natCast_ediv,Nat.div_eq_of_lt ha]
end
section
attribute [local congr] bu
attribute [local simp] au
theorem mT (x:Int×Int):aj x= .agg [I x.1,I x.2]:=rfl
def gn (l:List ((Int×Int)×PV)):List (PV×PV):=l.map λe=>(aj e.1,e.2)
def jg:List ((Int×Int)×PV)->Int×Int->PV->List ((Int×Int)×PV)
 |[],k,v=>[(k,v)]
 |(a,u)::l,k,v=>if k=a then (k,v)::l else (a,u)::jg l k v
def kj:List ((Int×Int)×PV)->Int×Int->Option PV
 |[],_=>none
 |(a,u)::l,k=>if k=a then some u else kj l k
theorem qY (x y:Int×Int):dB 2 (aj x) (aj y)=some (decide (x=y)):=by
 obtain⟨a,b⟩:=x;obtain⟨c,d⟩:=y;by_cases e:a=c
 ·by_cases f:b=d<;>simp[dB,aj,fj,jB,e,f,List.replicate]
 ·simp[dB,aj,fj,jB,e,List.replicate]
theorem GF (l:List ((Int×Int)×PV)) (k:Int×Int) (v:PV):ef 2 (gn l) (aj k) v=some (gn (jg l k v)):=by
 induction l with
 |nil=>rfl
 | cons x l b=>
  obtain⟨a,u⟩:=x;by_cases h:k=a
  ·simp[gn,jg,ef,qY,h]
  ·have:ef 2 (l.map λe=>(aj e.1,e.2)) (aj k) v=some (gn (jg l k v)):=b
   simp[gn,jg,ef,qY,h,this]
theorem GG (l:List ((Int×Int)×PV)) (k:Int×Int):eD 2 (gn l) (aj k)=some (kj l k):=by
 induction l with
 |nil=>rfl
 |cons x l b=>
  obtain⟨a,u⟩:=x;have:eD 2 (l.map λe=>(aj e.1,e.2)) (aj k)=some (kj l k):=b;by_cases h:k=a
  ·simp[gn,kj,eD,qY,h]
  ·simp[gn,kj,eD,qY,h,this]
theorem yC {l:List ((Int×Int)×PV)} {k:Int×Int} {v:PV} (h:k∉l.map (·.1)):jg l k v=l++[(k,v)]:=by
 induction l with
 |nil=>rfl
 |cons x l b=>
  obtain⟨a,u⟩:=x;simp only[bS,List.mem_cons,not_or] at h;rw[jg,if_neg h.1,b h.2];rfl
def kX (a:Int) (i:Nat) (x:Int×Int):Prop:=x.2<=x.1\/x.1<2\/2*(1+a+i)<=x.2\/x.1/2=x.2/2
instance (a:Int) (i:Nat) (x:Int×Int):Decidable (kX a i x):=inferInstanceAs (Decidable (_\/_))
def okA (a:Int):Nat->Om->Bool
 |_,[]=>true
 |i,x::l=>if kX a i x then false else okA a (i+1) l
def ck (b:Int) (a:Om):Int:=
 if ¬(0<=b/\b<=1000) then 3 else if 1000000<a.length then 2 else if okA b 0 a then (if a.Nodup then 0 else 6) else 4
section
variable {ins:Int} {ands:Om} {gh:Ol}
def GH (c:Ol) (b:Int) (a:Om) (m:List ((Int×Int)×PV)) (i:Nat):St:=
 ⟨[(1,Ob),(3,.mp c.length),(20,.sl false 2 (a.map aj)),(21,I a.length),(22,I (i:Int))],[[I b,.sl false 2 (a.map aj)]],c++[.map (gn m)]⟩
attribute [local simp] GH
theorem dX (h:ck ins ands=0):(0<=ins/\ins<=1000)/\ands.length<=1000000/\okA ins 0 ands=true/\ands.Nodup:=by
 unfold ck at h
 repeat' split at h
 all_goals first|(cases h;done)|skip
 rename_i c d b a;exact⟨Classical.not_not.1 c,NW,b,a⟩
def fJ (b:Int) (a:Om):Int:=1+b+a.length
theorem GJ (b:0<=ins/\ins<=1000) (a:ands.length<=1000001):ac pg 88 [gu ins ands] gh=some (I (fJ ins ands),gh):=by rw[Gt,aq (n:=1+ins) NW NW,aq NW NW];rfl
def fF (b:Int) (a:Om) (n:Int):Bool:=decide (0<=n/\n<2*fJ b a)
end
end
section
attribute [local congr] bu
attribute [local simp] au
def atA:Om->Int×Int->Option Nat
 |[],_=>none
 |y::l,x=>if x=y then some 0 else (atA l x).map (· +1)
theorem atA_none {l:Om} {x:Int×Int}:atA l x=none↔x∉l:=by
 induction l with
 |nil=>simp[atA]
 | cons y l a=>
  rw[atA];split
  ·rename_i h;subst h;simp
  ·rename_i h
   simp[a,h]
theorem GK {l:Om} {x:Int×Int} {i:Nat} (h:atA l x=some i):i<l.length/\l[i]?=some x:=by
 induction l generalizing i with
 |nil=>simp[atA] at h
 | cons y l a=>
  rw[atA] at h;split at h
  ·rename_i b;cases h;subst b;simp
  ·simp only[aE] at h
   obtain⟨j,c,rfl⟩:=h;obtain⟨e,d⟩:=a c;exact⟨by simp;omega,by simpa using d⟩
def byL (a:Int):Nat->Om->List ((Int×Int)×PV)
 |_,[]=>[]
 |i,x::l=>(x,I (2*(1+a+i)))::byL a (i+1) l
theorem tS (a:Int):∀(i:Nat) (l:Om),(byL a i l).map (·.1)=l
 |_,[]=>rfl
 |i,x::l=>by simp[byL,tS a (i+1) l]
theorem yD (a:Int) (x:Int×Int):∀(i:Nat) (l:Om),kj (byL a i l) x=(atA l x).map λj=>I (2*(1+a+((i+j:Nat):Int)))
 |_,[]=>rfl
 | i,y::l=>by
  rw[byL,kj,atA];split
  ·simp
  ·rw[yD a x (i+1) l]
   cases atA l x with
   |none=>rfl
   |some j=>simp;omega
theorem yE (l:Om):dr (l.map aj)=true:=by
 induction l with
 |nil=>rfl
 |cons x l a=>simp[aj,a]
section
variable {gh:Ol} {x y z:GObj}
theorem GL:(gh++[x,y])[gh.length]?=some x:=NX
theorem GN:(gh++[x,y])[gh.length+1]?=some y:=NX
theorem GO:(gh++[x,y]).set gh.length z=gh++[z,y]:=NX
end
def mkG (c:Ol) (b:Int) (a:Om) (m:List ((Int×Int)×PV)):Ol:=c++[.map (gn m),.cells [I b,.sl true 2 (a.map aj),.mp c.length]]
theorem yF {m:List ((Int×Int)×PV)} {a b:Int} {v:PV}:ef 2 (gn m) (.agg [I a,I b]) v=some (gn (jg m (a,b) v)):=GF m (a,b) v
theorem yG {m:List ((Int×Int)×PV)} {a b:Int}:eD 2 (gn m) (.agg [I a,I b])=some (kj m (a,b)):=GG m (a,b)
section
variable {ins:Int} {ands:Om} {gh:Ol}
def ou (c:Ol) (b:Int) (a:Om) (m:List ((Int×Int)×PV)) (i:Nat):St:=
 ⟨[(1,Ob),(3,Oe (c.length+1) 0),(16,.sl false 2 (a.map aj)),(17,I a.length),(18,I (i:Int))],[[I b,.sl false 2 (a.map aj)]],mkG c b a m⟩
attribute [local simp] ou
theorem GP (k:0<=ins/\ins<=1000) (j:ands.length<=1000000) {i:Nat} (d:i<ands.length) (m:List ((Int×Int)×PV)) :
  evK pg q5y fiK ⟨[(1,(Ob)),(3,(Oe (gh.length+1) 0)),(16,(.sl false 2 (ands.map aj))),(17,(.int .i64 ands.length)),(18,(.int .i64 i))],[[(.int .i64 ins),(.sl false 2 (ands.map aj))]],(mkG gh ins ands m)⟩=some (.normal,ou gh ins ands (jg m ands[i] (I (2*(1+ins+i)))) (i+1)):=by
 have g:WI.wrap ((i:Int)+1)=((i+1:Nat):Int):=by rw[aq NW NW];omega
 have e:(ands.map aj)[i]?=some (.agg [I ands[i].1,I ands[i].2]):=by simp[aA d,aj]
 generalize h:ands[i]=x at *;obtain⟨a,b⟩:=x;simp only at e;have f:WI.wrap (2*WI.wrap (WI.wrap (1+ins)+(i:Int)))=2*(1+ins+i):=by rw[aq (n:=1+ins) NW NW,aq (n:=1+ins+i) NW NW,aq NW NW]
 have c:(i:Int)<(ands.length:Int):=NW;simp[q5y,c,e,f,g,mkG,ou,yF,-List.getElem?_map,GL,GN,GO]
theorem yH (g:0<=ins/\ins<=1000) (f:ands.length<=1000000) (c:ands.Nodup):∀k i,i+k=ands.length->
  ab pg qed (ou gh ins ands (byL ins 0 (ands.take i)) i)=Og ⟨[(3,Oe (gh.length+1) 0)],[],mkG gh ins ands (byL ins 0 ands)⟩
 |0,i,h=>by
  rw[bK NW];have a:¬(i:Int)<(ands.length:Int):=NW;refine (bn (s1:=?J) (aa ?Z)).trans ?Y
  case Z=>simp[q5y,a];rfl
  case Y=>rfl
 | k +1,i,h=>by
  have a:i<ands.length:=NW;refine ay (aa (GP g f a _)) ?_;have d:ands[i]∉(byL ins 0 (ands.take i)).map (·.1):=by
   rw[tS];intro p;obtain⟨j,q,m⟩:=List.getElem_of_mem p;rw[List.getElem_take] at m;have e:j<i:=by simp at q;omega
   have:=(List.nodup_iff_pairwise_ne.1 c)
   have:=List.pairwise_iff_getElem.1 this j i NW a e;exact this m
  have b:jg (byL ins 0 (ands.take i)) ands[i] (I (2*(1+ins+i)))=byL ins 0 (ands.take (i+1)):=by
   rw[yC d,List.take_add_one,aA a];have:∀(j:Nat) (l:Om) (x:Int×Int),byL ins j l++[(x,I (2*(1+ins+((j+l.length:Nat):Int))))]=byL ins j (l++[x]):=by
    intro j l
    induction l generalizing j with
    |nil=>intro x;simp[byL]
    |cons y l o=>
     intro x;have:=o (j+1) x;rw[show j+1+l.length=j+(y::l).length by simp;omega] at this;simp only[byL,bH,this]
   have n:=this 0 (ands.take i) ands[i];rw[cP,Nat.min_eq_left NW,cV] at n;simpa using n
  rw[b];exact yH g f c k (i+1) NW
theorem GQ {o:Bool} {a:Ok} (h:a.length*16<=maxBytes):ac pg 87 [.sl o 2 a] gh=some (.sl true 2 a,gh):=by have:ac pg 87 [.sl o 2 a] gh=gy 2 16 [.sl o 2 a] gh:=rfl;rw[this,gy,if_pos ⟨rfl,h⟩]
theorem GR (g:0<=ins/\ins<=1000) (f:ands.length<=1000000) (b:ands.Nodup):ac pg 48 [gu ins ands] gh=some (Oe (gh.length+1) 0,mkG gh ins ands (byL ins 0 ands)):=by
 have e:=MB;have h:ac pg 87 [.sl false 2 (ands.map aj)] []=some (.sl true 2 (ands.map aj),[]):=GQ (by simp;omega);have a:=yH (gh:=gh) g f b ands.length 0 NW;unfold ou mkG at a;have i:gn (byL ins 0 (ands.take 0))=[]:=rfl;rw[i] at a;simp only[aR] at a;have d:=aa (c:=q9i) (s:=⟨[(3,(Oe (gh.length+1) 0))],[],(mkG gh ins ands (byL ins 0 ands))⟩) (r:=Oh ⟨[(2,Oe (gh.length+1) 0)],[],mkG gh ins ands (byL ins 0 ands)⟩) (pg:=pg) (by simp[q9i]<;>rfl);unfold mkG at d
 refine ak (fn:=q5z) (s:=⟨[(2,Oe (gh.length+1) 0)],[],mkG gh ins ands (byL ins 0 ands)⟩) rfl rfl (aa ?J) ?Z
 case J=>simp[qee,q5z,h,yE,a,d,mkG]
 case Z=>simp[ag,results,q5z,ah,am,af]
def e8 (d:Int) (c:Om) (a b:Int):Om×Int:=
 if a=0\/(a/2=b/2/\a≠b) then (c,0) else if a=1\/a=b then (c,b)
 else match atA c (a,b) with
  |some i=>(c,2*(1+d+i))
  |none=>(c++[(a,b)],2*fJ d c)
def fy (d:Int) (c:Om) (a b:Int):Om×Int:=if b<a then e8 d c b a else e8 d c a b
theorem qZ {a b:Int} (ha:0<=a/\a<2002002) (c:0<=b):(gz .i64 a 1=b)↔(a/2=b/2/\a≠b):=by
 obtain⟨A,rfl⟩:∃n:Nat,a=n:=⟨a.toNat,NW⟩
 obtain⟨d,rfl⟩:∃n:Nat,b=n:=⟨b.toNat,NW⟩
 rw[tR NW];omega
theorem GS (b:0<=ins/\ins<=1000) (a:ands.length<=1000000) {n:Int} (h:fF ins ands n=true):0<=n/\n<2002002:=by unfold fF fJ at h;rw[aH] at h;omega
end
end
section
attribute [local congr] bu
attribute [local simp] au
abbrev LB (v:On):PV:= NZ (v.map B)
def db (v:On) (n:Int):Bool:=(v.getD (n/2).toNat false) !=decide (n%2=1)
def dg:On->Om->On
 |v,[]=>v
 |v,x::l=>dg (v++[db v x.1&&db v x.2]) l
theorem tT:∀(v:On) (l:Om),(dg v l).length=v.length+l.length
 |v,[]=>rfl
 |v,x::l=>by rw[dg,tT];simp;omega
@[simp] theorem noG_ep (e : PV) (o : Nat) : PV.noG (.ep e o) = e.noG := rfl
section
variable {gh:Ol}
def GT (a:Ol) (v:On):Ol:=a++[.cells [Oa (v.map B)]]
def GU (b:Ol) (a:Om) (v:On) (i:Nat):St:=
 ⟨[(5,Oe b.length 0),(6,.fn 89 [Oe b.length 0]),(14,.sl false 2 (a.map aj)),(15,I a.length),(16,I (i:Int))],[],GT b v⟩
attribute [local simp] GU
def ra (x:Int×Int) (n:Nat):Prop:=(0<=x.1/\x.1<=9223372036854775807/\(x.1/2).toNat<n)/\(0<=x.2/\x.2<=9223372036854775807/\(x.2/2).toNat<n)
theorem yI {a:Int}:∀{i:Nat} {l:Om} {j:Nat} (_:okA a i l=true) (b:j<l.length),¬kX a (i+j) l[j]
 |i,x::l,0,h,_=>by
  rw[okA] at h;split at h
  ·cases h
  ·simpa
 | i,x::l,j+1,h,b=>by
  rw[okA] at h;split at h
  ·cases h
  ·have:=yI (j:=j) h (by simpa using b)
   rw[show i+1+j=i+(j+1) by omega] at this;simpa using this
theorem GV {a:Int} (c:0<=a/\a<=1000) {x:Int×Int} {j n:Nat} (h:¬kX a j x) (b:j<=1000000) (hn:(n:Int)=1+a+j):ra x n:=by unfold kX at h;simp only[not_or] at h;unfold ra;omega
def GW (v:On) (lits:Oi) (a:On) (i:Nat) (b:Ol):St:=
 ⟨[(9,LB v),(10,Oa (a.map B)),(32,LI lits),(33,I lits.length),(34,I (i:Int))],[],b⟩
attribute [local simp] GW
end
end
section
attribute [local congr] bu
def fP:Om:=[(4,1),(5,1),(6,2),(7,2),(8,2),(9,2),(10,2),(11,2),(12,2),(13,2),(14,2),(15,2),(16,3),(17,3),(18,3),(19,4),(20,5),(21,6),(22,7),(23,7)]
theorem jK (a:Ol):ac pg 61 [] a=some (.mp a.length,a++[.map (bi fP)]):=by
 refine ak (fn:=q89) (s:=⟨[(0,.mp a.length)],[],a++[.map (bi fP)]⟩) rfl rfl (aa ?J) ?Z
 case J=>
  simp[qgt,q89,ef,eS,dB];rfl
 case Z=>simp[ag,results,q89,ah,am,af]
def cn (k:Int):Option Int:=
 if k<4 then none else if k<6 then some 1 else if k<16 then some 2 else if k<19 then some 3 else if k=19 then some 4 else if k=20 then some 5
 else if k=21 then some 6 else if k<24 then some 7 else none
theorem yJ (k:Int):gx fP k=cn k:=by
 by_cases h:4<=k/\k<24
 ·obtain⟨n,rfl⟩:∃n:Fin 20,k=4+(n.val:Int):=⟨⟨(k-4).toNat,NW⟩,by simp;omega⟩
  revert n;decide
 ·have:∀l:Om,(∀x∈l,4<=x.1/\x.1<24)->gx l k=none:=by
   intro l
   induction l with
   |nil=>intro;rfl
   |cons x l c=>
    intro b;have f:=b x NX;have e:=c λy d=>b y (by simp[d])
    obtain⟨a,u⟩:=x;rw[gx,if_neg,e];rintro rfl;exact h f
  rw[this _ NY,cn];split
  ·rfl
  ·repeat rw[if_neg NW]
def ar (k:Int):Int:=
 if k<4 then 0 else if k<6 then 1 else if k<19 then 2 else if k=19 then 3 else if k=20 then 2 else if k<24 then 1 else 0
theorem iq (k:Int) (a:Ol):ac pg 63 [I k] a=some (I (ar k),a):=by
 have h:ac pg 63 [I k] a=some (I (let n:=(cn k).getD 0;if n=0 then 0 else if n=1\/n=6\/n=7 then 1 else if n=4 then 3 else 2),a):=by
  have b:=yJ k;cases g:cn k with
  |none=>
   rw[g] at b;refine ak (fn:=qk) (s:=?J) rfl rfl (aa ?Z) ?Y
   case Z=>simp[q3p,qk,jK,b];rfl
   case Y=>simp[ag,results,qk,ah,am,af]
  | some n=>
   rw[g] at b;by_cases d:n=0
   ·refine ak (fn:=qk) (s:=?K) rfl rfl (aa ?V) ?W
    case V=>simp[q3p,qk,jK,b,d];rfl
    case W=>simp[ag,results,qk,ah,am,af,d]
   by_cases e:n=1\/n=6\/n=7
   ·refine ak (fn:=qk) (s:=⟨[(2,I 1)],[],a++[.map (bi fP)]⟩) rfl rfl (aa ?Ja) ?Jb
    case Ja=>
     have:=aa (c:=q32) (s:=⟨[(5,(.int .i64 n)),(8,(.bool true))],[],(a++[.map (bi fP)])⟩) (r:=Oh ⟨[(2,I 1)],[],a++[.map (bi fP)]⟩) (pg:=pg) (by simp[q32]);rcases e with rfl|rfl|rfl<;>simp[q3p,qk,jK,b,this]
    case Jb=>simp[ag,results,qk,ah,am,af,d,e]
   ·by_cases f:n=4
    ·refine ak (fn:=qk) (s:=⟨[(2,I 3)],[],a++[.map (bi fP)]⟩) rfl rfl (aa ?Jc) ?Jd
     case Jc=>
      subst f;have:=aa (c:=q32) (s:=⟨[(5,(.int .i64 4)),(8,(.bool false))],[],(a++[.map (bi fP)])⟩) (r:=Oh ⟨[(2,I 3)],[],a++[.map (bi fP)]⟩) (pg:=pg) (by simp[q32]);simp[q3p,qk,jK,b,this]
     case Jd=>simp[ag,results,qk,ah,am,af,d,f]
    ·simp only[not_or] at e
     refine ak (fn:=qk) (s:=⟨[(2,I 2)],[],a++[.map (bi fP)]⟩) rfl rfl (aa ?Je) ?Jf
     case Je=>
      have:=aa (c:=q32) (s:=⟨[(5,(.int .i64 n)),(8,(.bool false))],[],(a++[.map (bi fP)])⟩) (r:=Og ⟨[(12,B false)],[],a++[.map (bi fP)]⟩) (pg:=pg) (by simp[q32,f]);have i:=aa (c:=qcz) (s:=⟨[(12,(.bool false))],[],(a++[.map (bi fP)])⟩) (r:=Oh ⟨[(2,I 2)],[],a++[.map (bi fP)]⟩) (pg:=pg) (by simp[qcz]);simp[q3p,qk,jK,b,d,e,this,i]
     case Jf=>simp[ag,results,qk,ah,am,af,d,e,f]
 rw[h]
 congr 3
 simp only[cn,ar]
 repeat' split
 all_goals first|rfl|omega|simp_all
theorem kY (w:Int) (a:Ol):ac pg 62 [I w] a=some (B (decide (1<=w/\w<=8)),a):=by
 by_cases h:1<=w
 ·refine ak (fn:=q31) (s:=?J) rfl rfl (aa ?Z) ?Y
  case Z=>simp[qcy,q31,h];rfl
  case Y=>simp[ag,results,q31,ah,am,af,h]
 ·refine ak (fn:=q31) (s:=?K) rfl rfl (aa ?V) ?W
  case V=>simp[qcy,q31,h];rfl
  case W=>simp[ag,results,q31,ah,am,af,h]
def b9 (s a n b w1 c:Int):Bool:=
 if n≠0/\s≠6 then false
 else if s=1 then b=a
 else if s=2 then b=a/\w1=a
 else if s=3 then b=w1/\a=1
 else if s=4 then b=1/\w1=a/\c=a
 else if s=5 then WI.wrap (b+w1)=a
 else if s=6 then 0<=n/\n<=WI.wrap (b-a)
 else b<=a
theorem yK (s a n b w1 d:Int) (e:Ol):ac pg 64 [I s,I a,I n,.agg [I b,I w1,I d]] e=some (B (b9 s a n b w1 d),e):=by
 have h:evK pg q18 fiK ⟨[(0,(.int .i64 s)),(1,(.int .i64 a)),(2,(.int .i64 n)),(3,(.agg [(.int .i64 b),(.int .i64 w1),(.int .i64 d)]))],[],e⟩=Oh ⟨[(8,B (b9 s a n b w1 d))],[],e⟩:=by
  by_cases hn:n=0
  ·by_cases k:s=1
   ·simp[q18,qz,b9,hn,k]
   by_cases j:s=2
   ·by_cases h:b=a<;>simp[q18,qz,b9,hn,j,h]
   by_cases i:s=3
   ·by_cases h:b=w1<;>simp[q18,qz,b9,hn,i,h]
   by_cases g:s=4
   ·by_cases h:b=1<;>by_cases l:w1=a<;>simp[q18,qz,b9,hn,g,h,l]
   by_cases f:s=5
   ·simp[q18,qz,b9,hn,f]
   by_cases c:s=6
   ·simp[q18,qz,b9,hn,c]
   simp[q18,qz,b9,hn,k,j,i,g,f,c]
  ·by_cases c:s=6
   ·by_cases h:0<=n<;>simp[q18,qz,b9,hn,c,h]
   ·simp[q18,qz,b9,hn,c]
 refine ak (fn:=qz) rfl rfl (aa h) ?J;simp[ag,results,qz,ah,am,af]
def wOk (k i w:Int):Prop:=if i<ar k then 1<=w/\w<=8 else w=0
instance (k i w:Int):Decidable (wOk k i w):=inferInstanceAs (Decidable (if i<ar k then 1<=w/\w<=8 else w=0))
theorem tU (k a n s e w1 d i w:Int) (j:Ol) (f:(i=0/\w=e)\/(i=1/\w=w1)\/(i=2/\w=d)) :
  evK pg q1x fiK ⟨[(0,(.int .i64 k)),(1,(.int .i64 a)),(2,(.int .i64 n)),(7,(Ob)),(9,(.int .i64 s)),(24,(.agg [(.int .i64 e),(.int .i64 w1),(.int .i64 d)])),(25,(.int .i64 i))],[[(.int .i64 e),(.int .i64 w1),(.int .i64 d)]],j⟩=if wOk k i w then Og ⟨[(0,I k),(1,I a),(2,I n),(7,Ob),(9,I s),(24,.agg [I e,I w1,I d]),(25,I (i+1))],[[I e,I w1,I d]],j⟩
   else Oh ⟨[(8,I 3)],[],j⟩:=by
 have hw:(WI.wrap (i+1))=i+1:=aq NW NW;by_cases c:i<ar k
 ·have b:=Int.not_le.2 c
  by_cases h:1<=w
  ·by_cases g:w<=8
   ·rcases f with ⟨rfl,rfl⟩|⟨rfl,rfl⟩|⟨rfl,rfl⟩<;>simp[q1x,iq,kY,c,b,wOk,h,g]<;>exact hw
   ·rcases f with ⟨rfl,rfl⟩|⟨rfl,rfl⟩|⟨rfl,rfl⟩<;>simp[q1x,iq,kY,c,wOk,h,g]
  ·rcases f with ⟨rfl,rfl⟩|⟨rfl,rfl⟩|⟨rfl,rfl⟩<;>simp[q1x,iq,kY,c,wOk,h]
 ·have b:=Int.not_lt.1 c
  by_cases g:w=0
  ·rcases f with ⟨rfl,rfl⟩|⟨rfl,rfl⟩|⟨rfl,rfl⟩<;>simp[q1x,iq,c,b,wOk,g]<;>exact hw
  ·rcases f with ⟨rfl,rfl⟩|⟨rfl,rfl⟩|⟨rfl,rfl⟩<;>simp[q1x,iq,c,b,wOk,g]
theorem GX (k a n s c w1 b:Int) (d:Ol) :
  ab pg qgs ⟨[(0,I k),(1,I a),(2,I n),(7,Ob),(9,I s),(24,.agg [I c,I w1,I b]),(25,I 0)],[[I c,I w1,I b]],d⟩=
   if wOk k 0 c/\wOk k 1 w1/\wOk k 2 b then Og ⟨[(1,I a),(2,I n),(7,Ob),(9,I s)],[[I c,I w1,I b]],d⟩ else Oh ⟨[(8,I 3)],[],d⟩:=by
 have l:=tU k a n s c w1 b 0 c d NX;have j:=tU k a n s c w1 b 1 w1 d NX;have i:=tU k a n s c w1 b 2 b d NX;by_cases g:wOk k 0 c
 ·rw[if_pos g] at l
  refine ay (aa l) ?_;by_cases f:wOk k 1 w1
  ·rw[if_pos f] at j
   refine ay (aa j) ?_;by_cases e:wOk k 2 b
   ·rw[if_pos e] at i
    refine ay (aa i) ?_;rw[if_pos ⟨g,f,e⟩];refine (bn (s1:=?J) (aa ?Z)).trans ?Y
    case Z=>simp[q1x];rfl
    case Y=>simp[keep]
   ·rw[if_neg e] at i
    rw[if_neg (λh=>e h.2.2)];exact cx (aa i)
  ·rw[if_neg f] at j
   rw[if_neg (λh=>f h.2.1)];exact cx (aa j)
 ·rw[if_neg g] at l
  rw[if_neg (λh=>g h.1)];exact cx (aa l)
def ir (k a n c w1 b:Int):Int:=
 match cn k with
 |none=>7
 |some s=>if ¬(1<=a/\a<=8) then 3 else if ¬(wOk k 0 c/\wOk k 1 w1/\wOk k 2 b) then 3 else if b9 s a n c w1 b then 0 else 1
theorem GY (k a n d w1 c:Int) (f:Ol):ac pg 22 [I k,I a,I n,.agg [I d,I w1,I c]] f=some (I (ir k a n d w1 c),f):=by
 have b:=yJ k;simp only[ir];cases m:cn k with
 |none=>
  rw[m] at b;refine ak (fn:=qj) (s:=?J) rfl rfl (aa ?Z) ?Y
  case Z=>simp[q3o,qj,jK,b];rfl
  case Y=>simp[ag,results,qj,ah,am,af]
 | some s=>
  rw[m] at b;by_cases hw:1<=a/\a<=8
  ·have g:=GX k a n s d w1 c (f++[.map (bi fP)])
   simp only[hw,not_true,if_false,and_self];by_cases i:wOk k 0 d/\wOk k 1 w1/\wOk k 2 c
   ·rw[if_pos i] at g
    simp only[i,not_true,if_false,and_self];have o:∀e l,evK pg q88 fiK ⟨[(1,(.int .i64 a)),(2,(.int .i64 n)),(7,(Ob)),(9,(.int .i64 s))],[[(.int .i64 d),(.int .i64 w1),(.int .i64 c)]],(f++[.map (bi fP)])⟩=some (e,l)->_:=λe l h=>aa h
    by_cases j:b9 s a n d w1 c
    ·have:=o .ret ⟨[(8,I 0)],[],f++[.map (bi fP)]⟩ (by simp[q88,yK,j])
     refine ak (fn:=qj) (s:=?K) rfl rfl (aa ?V) ?W
     case V=>simp[q3o,qj,jK,b,kY,hw,g,this];rfl
     case W=>simp[ag,results,qj,ah,am,af,j]
    ·have:=o .ret ⟨[(8,I 1)],[],f++[.map (bi fP)]⟩ (by simp[q88,yK,j])
     refine ak (fn:=qj) (s:=?Ja) rfl rfl (aa ?Jb) ?Jc
     case Jb=>simp[q3o,qj,jK,b,kY,hw,g,this];rfl
     case Jc=>simp[ag,results,qj,ah,am,af,j]
   ·rw[if_neg i] at g
    refine ak (fn:=qj) (s:=?Jd) rfl rfl (aa ?Je) ?Jf
    case Je=>simp[q3o,qj,jK,b,kY,hw,g];rfl
    case Jf=>simp[ag,results,qj,ah,am,af,i]
  ·refine ak (fn:=qj) (s:=?Jg) rfl rfl (aa ?Jh) ?Ji
   case Jh=>simp[q3o,qj,jK,b,kY,hw];rfl
   case Ji=>simp[ag,results,qj,ah,am,af,hw]
end
section
attribute [local congr] bu
attribute [local simp] au
theorem fe (n a b:Int) (c:Ol):ac pg 50 [I n,I a,I b] c=some (B (decide (a<=n/\n<=b)),c):=by
 by_cases h:a<=n
 ·refine ak (fn:=q2i) (s:=?J) rfl rfl (aa ?Z) ?Y
  case Z=>simp[qay,q2i,h];rfl
  case Y=>simp[ag,results,q2i,ah,am,af,h]
 ·refine ak (fn:=q2i) (s:=?K) rfl rfl (aa ?V) ?W
  case V=>simp[qay,q2i,h];rfl
  case W=>simp[ag,results,q2i,ah,am,af,h]
theorem gp (k:Int) (a:Ol):ac pg 26 [I k] a=some (I (ar k),a):=by
 by_cases e:k=4\/k=5\/k=21\/k=22\/k=23
 ·refine ak (fn:=qw) (s:=⟨[(2,I 1)],[],a⟩) rfl rfl (aa ?J) ?Z
  case J=>
   have:=aa (c:=q2g) (s:=⟨[(0,(.int .i64 k)),(3,(.int .i64 k)),(4,(.bool true))],[],a⟩) (r:=Oh ⟨[(2,I 1)],[],a⟩) (pg:=pg) (by simp[q2g]);rcases e with rfl|rfl|rfl|rfl|rfl<;>simp[q43,qw,this]
  case Z=>
   rcases e with rfl|rfl|rfl|rfl|rfl<;>simp[ag,results,qw,ah,am,af]<;>rfl
 simp only[not_or] at e;by_cases f:k=19
 ·refine ak (fn:=qw) (s:=⟨[(2,I 3)],[],a⟩) rfl rfl (aa ?Y) ?K
  case Y=>
   subst f;have:=aa (c:=q2g) (s:=⟨[(0,(.int .i64 19)),(3,(.int .i64 19)),(4,(.bool false))],[],a⟩) (r:=Oh ⟨[(2,I 3)],[],a⟩) (pg:=pg) (by simp[q2g]);simp[q43,qw,this]
  case K=>subst f;simp[ag,results,qw,ah,am,af];rfl
 have d:=aa (c:=q2g) (s:=⟨[(0,(.int .i64 k)),(3,(.int .i64 k)),(4,(.bool false))],[],a⟩) (r:=Og ⟨[(0,I k),(10,B false)],[],a⟩) (pg:=pg) (by simp[q2g,f]);by_cases g:6<=k/\k<=20
 ·refine ak (fn:=qw) (s:=⟨[(2,I 2)],[],a⟩) rfl rfl (aa ?V) ?W
  case V=>
   have b:=aa (c:=q42) (s:=⟨[(0,(.int .i64 k)),(10,(.bool false))],[],a⟩) (r:=Oh ⟨[(2,I 2)],[],a⟩) (pg:=pg) (by simp[q42,fe,g]);simp[q43,qw,e,d,b]
  case W=>
   have:ar k=2:=by simp only[ar];repeat' split<;>first|omega|rfl
   simp[ag,results,qw,ah,am,af,this]
 ·refine ak (fn:=qw) (s:=⟨[(2,I 0)],[],a⟩) rfl rfl (aa ?Ja) ?Jb
  case Ja=>
   have b:=aa (c:=q42) (s:=⟨[(0,(.int .i64 k)),(10,(.bool false))],[],a⟩) (r:=Oh ⟨[(2,I 0)],[],a⟩) (pg:=pg) (by simp[q42,fe,g]);simp[q43,qw,e,d,b]
  case Jb=>
   have:ar k=0:=by simp only[ar];repeat' split<;>first|omega|rfl
   simp[ag,results,qw,ah,am,af,this]
theorem tV (k a n g w1 f i w:Int) (j:Ol) (d:(i=0/\w=g)\/(i=1/\w=w1)\/(i=2/\w=f)) :
  evK pg q1s fiK ⟨[(0,(.int .i64 k)),(1,(.int .i64 a)),(2,(.int .i64 n)),(7,(Ob)),(9,(.int .i64 (ar k))),(10,(.int .i64 i))],[[(.int .i64 g),(.int .i64 w1),(.int .i64 f)]],j⟩=if wOk k i w then Og ⟨[(0,I k),(1,I a),(2,I n),(7,Ob),(9,I (ar k)),(10,I (i+1))],[[I g,I w1,I f]],j⟩
   else Oh ⟨[(8,I 3)],[],j⟩:=by
 have hw:(WI.wrap (i+1))=i+1:=aq NW NW;by_cases c:i<ar k
 ·have b:=Int.not_le.2 c
  by_cases h:1<=w
  ·by_cases e:w<=8
   ·rcases d with ⟨rfl,rfl⟩|⟨rfl,rfl⟩|⟨rfl,rfl⟩<;>simp[q1s,fe,c,b,wOk,h,e]<;>exact hw
   ·rcases d with ⟨rfl,rfl⟩|⟨rfl,rfl⟩|⟨rfl,rfl⟩<;>simp[q1s,fe,c,wOk,h,e]
  ·rcases d with ⟨rfl,rfl⟩|⟨rfl,rfl⟩|⟨rfl,rfl⟩<;>simp[q1s,fe,c,wOk,h]
 ·have b:=Int.not_lt.1 c
  by_cases e:w=0
  ·rcases d with ⟨rfl,rfl⟩|⟨rfl,rfl⟩|⟨rfl,rfl⟩<;>simp[q1s,c,b,wOk,e]<;>exact hw
  ·rcases d with ⟨rfl,rfl⟩|⟨rfl,rfl⟩|⟨rfl,rfl⟩<;>simp[q1s,c,b,wOk,e]
theorem GZ (k a n c w1 b:Int) (d:Ol) :
  ab pg qfb ⟨[(0,I k),(1,I a),(2,I n),(7,Ob),(9,I (ar k)),(10,I 0)],[[I c,I w1,I b]],d⟩=
   if wOk k 0 c/\wOk k 1 w1/\wOk k 2 b then Og ⟨[(0,I k),(1,I a),(2,I n),(7,Ob)],[[I c,I w1,I b]],d⟩ else Oh ⟨[(8,I 3)],[],d⟩:=by
 have l:=tV k a n c w1 b 0 c d NX;have j:=tV k a n c w1 b 1 w1 d NX;have i:=tV k a n c w1 b 2 b d NX;by_cases g:wOk k 0 c
 ·rw[if_pos g] at l
  refine ay (aa l) ?_;by_cases f:wOk k 1 w1
  ·rw[if_pos f] at j
   refine ay (aa j) ?_;by_cases e:wOk k 2 b
   ·rw[if_pos e] at i
    refine ay (aa i) ?_;rw[if_pos ⟨g,f,e⟩];refine (bn (s1:=?J) (aa ?Z)).trans ?Y
    case Z=>simp[q1s];rfl
    case Y=>simp[keep]
   ·rw[if_neg e] at i
    rw[if_neg (λh=>e h.2.2)];exact cx (aa i)
  ·rw[if_neg f] at j
   rw[if_neg (λh=>f h.2.1)];exact cx (aa j)
 ·rw[if_neg g] at l
  rw[if_neg (λh=>g h.1)];exact cx (aa l)
theorem jh (k n:Int) (b:Bool) (c:Ol) :
  ab pg q40 ⟨[(0,I k),(2,I n),(11,B b)],[],c⟩=Oh ⟨[(8,I (if b=false\/(k≠21/\n≠0) then 1 else 0))],[],c⟩:=by
 refine aa ?_;cases b
 ·simp[q40]
 ·by_cases a:k=21
  ·simp[q40,a]
  ·by_cases d:n=0<;>simp[q40,a,d]
theorem Ha (k a n b w1 i s:Int) (p:Ol) (d:cn k=some s) (hw:1<=a/\a<=8) (x:wOk k 0 b) (y:wOk k 1 w1) :
  ab pg qu ⟨[(0,I k),(1,I a),(2,I n),(7,Ob)],[[I b,I w1,I i]],p⟩=Oh ⟨[(8,I (if b9 s a n b w1 i then 0 else 1))],[],p⟩:=by
 refine aa ?_;by_cases h:k=4
 ·subst h;cases d
  simp[qu,jh,b9];by_cases hn:n=0<;>by_cases c:b=a<;>simp[hn,c]
 by_cases g:k=5
 ·subst g;cases d
  simp[qu,jh,b9];by_cases hn:n=0<;>by_cases c:b=a<;>simp[hn,c]
 by_cases o:6<=k/\k<=15
 ·have:s=2:=by
   simp only[cn] at d;rw[if_neg NW,if_neg NW,if_pos NW] at d;cases d;rfl
  subst this;have j:k≠21:=NW;by_cases hn:n=0<;>by_cases c:b=a<;>by_cases e:w1=a<;>simp[qu,jh,fe,b9,h,g,o,j,hn,c,e]
 by_cases v:16<=k/\k<=18
 ·have:s=3:=by
   simp only[cn] at d;rw[if_neg NW,if_neg NW,if_neg NW,if_pos NW] at d;cases d;rfl
  subst this;have j:k≠21:=NW;by_cases hn:n=0<;>by_cases c:b=w1<;>by_cases e:a=1<;>simp[qu,jh,fe,b9,h,g,o,v,j,hn,c,e]
 by_cases u:k=19
 ·subst u;cases d
  by_cases hn:n=0<;>by_cases c:b=1<;>by_cases e:w1=a<;>by_cases l:i=a<;>simp[qu,jh,fe,b9,hn,c,e,l]
 by_cases t:k=20
 ·subst t;cases d
  by_cases hn:n=0<;>by_cases c:WI.wrap (b+w1)=a<;>simp[qu,jh,fe,b9,hn,c]
 by_cases r:k=21
 ·subst r;cases d
  have w:1<=b/\b<=8:=x;have m:WI.wrap (b-a)=b-a:=aq NW NW;by_cases hn:0<=n
  ·by_cases f:n<=8
   ·have q:WI.wrap (n+a)=n+a:=aq NW NW
    by_cases c:n+a<=b
    ·simp[qu,jh,fe,b9,hn,f,m,q,c,show n<=b-a by omega]
    ·simp[qu,jh,fe,b9,hn,f,m,q,c,show ¬n<=b-a by omega]
   ·simp[qu,jh,fe,b9,hn,f,m,show ¬n<=b-a by omega]
  ·simp[qu,jh,fe,b9,hn]
 ·have:s=7:=by
   simp only[cn] at d
   repeat' split at d
   all_goals first|(exfalso;omega)|(cases d;done)|(cases d;rfl)
  subst this;by_cases hn:n=0<;>by_cases c:b<=a<;>simp[qu,jh,fe,b9,h,g,o,v,u,t,r,hn,c]
theorem yL (k:Int):ar k=0↔cn k=none:=by
 simp only[ar,cn];constructor
 ·intro h;repeat' split
  all_goals first|rfl|(exfalso;revert h;repeat' split)<;>omega
 ·intro h;repeat' split
  all_goals first|rfl|(exfalso;revert h;repeat' split)<;>first|omega|simp
theorem Hb (k a n d w1 c:Int) (f:Ol):ac pg 23 [I k,I a,I n,.agg [I d,I w1,I c]] f=some (I (ir k a n d w1 c),f):=by
 simp only[ir];cases i:cn k with
 |none=>
  refine ak (fn:=qv) (s:=?J) rfl rfl (aa ?Z) ?Y
  case Z=>simp[q41,qv,gp,(yL k).2 i];rfl
  case Y=>simp[ag,results,qv,ah,am,af]
 | some s=>
  have g:ar k≠0:=λh=>by rw[yL,i] at h;cases h
  by_cases hw:1<=a/\a<=8
  ·have e:=GZ k a n d w1 c f
   simp only[hw,not_true,if_false,and_self];by_cases b:wOk k 0 d/\wOk k 1 w1/\wOk k 2 c
   ·rw[if_pos b] at e
    have j:=Ha k a n d w1 c s f i hw b.1 b.2.1;simp only[b,not_true,if_false,and_self];refine ak (fn:=qv) (s:=?K) rfl rfl (aa ?V) ?W
    case V=>simp[q41,qv,gp,g,fe,hw,e,j];rfl
    case W=>simp[ag,results,qv,ah,am,af]
   ·rw[if_neg b] at e
    refine ak (fn:=qv) (s:=?Ja) rfl rfl (aa ?Jb) ?Jc
    case Jb=>simp[q41,qv,gp,g,fe,hw,e];rfl
    case Jc=>simp[ag,results,qv,ah,am,af,b]
  ·refine ak (fn:=qv) (s:=?Jd) rfl rfl (aa ?Je) ?Jf
   case Je=>simp[q41,qv,gp,g,fe,hw];rfl
   case Jf=>simp[ag,results,qv,ah,am,af,hw]
end
section
attribute [local congr] bu
attribute [local simp] au
section
variable {ins:Int} {ands:Om} {gh:Ol}
end
def RI (l:Oi):Prop:=∀x∈l,-9223372036854775808<=x/\x<=9223372036854775807
end
section
attribute [local congr] bu
attribute [local simp] au
def clV (a:Int) (cls:Oj):PV:= .agg [I a,NZ (cls.map λl=>LI l)]
@[simp] theorem clV_a (v : Int) (cs : Oj) : az (clV v cs) = true := (rfl)
@[simp] theorem clV_d (v : Int) (cs : Oj) : degr (clV v cs) = clV v cs := (rfl)
@[simp] theorem clV_e (v : Int) (cs : Oj) : aw (clV v cs) = clV v cs := (rfl)
@[simp] theorem clV_c (v : Int) (cs : Oj) : (clV v cs).cells = [I v, NZ (cs.map λl => LI l)] := (rfl)
theorem mU (l:Oi):dr (l.map I)=true:=by
 induction l with
 |nil=>rfl
 |cons x l a=>simp[a]
theorem jL (l:Oj):dr (l.map λl=>LI l)=true:=by
 induction l with
 |nil=>rfl
 |cons x l a=>simp[a,mU]
def dJ (x a:Int):Int:=
 if Int.tmod x 2=1 then WI.wrap (-WI.wrap (WI.wrap (Int.tdiv x 2)+a)) else WI.wrap (WI.wrap (Int.tdiv x 2)+a)
theorem ov (x a:Int) (b:Ol):ac pg 90 [I x,I a] b=some (I (dJ x a),b):=by
 by_cases h:Int.tmod x 2=1
 ·refine ak (fn:=q23) (s:=?J) rfl rfl (aa ?Z) ?Y
  case Z=>simp[q9a,q23,h];rfl
  case Y=>simp[ag,results,q23,ah,am,af,dJ,h]
 ·refine ak (fn:=q23) (s:=?K) rfl rfl (aa ?V) ?W
  case V=>simp[q9a,q23,h];rfl
  case W=>simp[ag,results,q23,ah,am,af,dJ,h]
def mkC (b:Ol) (a:Int) (cls:Oj):Ol:=b++[.cells [I a,Oa (cls.map λl=>LI l)]]
section
variable {gh:Ol} {x y:GObj}
end
def nOf (b a:Int) (i:Nat):Int:=WI.wrap (WI.wrap (WI.wrap (1+b)+(i:Int))+a)
def cg (x:Int):Int:=WI.wrap (-x)
def kZ (b a:Int) (i:Nat) (x:Int×Int):Oj:=
 [[cg (nOf b a i),dJ x.1 a],[cg (nOf b a i),dJ x.2 a],[nOf b a i,cg (dJ x.1 a),cg (dJ x.2 a)]]
def ji (b a:Int):Nat->Om->Oj
 |_,[]=>[]
 |i,x::l=>kZ b a i x++ji b a (i+1) l
theorem re (b a:Int):∀(i:Nat) (l:Om),(ji b a i l).length=3*l.length
 |_,[]=>rfl
 |i,x::l=>by rw[ji,aQ,re b a (i+1) l];simp[kZ];omega
section
variable {ins:Int} {ands:Om} {gh:Ol}
def Hc (e:Ol) (d:Int) (a:Om) (c b:Int) (cls:Oj) (i:Nat):St:=
 ⟨[(0,Oe e.length 0),(2,I c),(4,Ob),(12,.sl false 2 (a.map aj)),(13,I a.length),(14,I (i:Int))],[[I d,.sl false 2 (a.map aj)]],mkC e b cls⟩
attribute [local simp] Hc
def gq (r a:Int):Oj:=if r=1 then [] else if r=0 then [[]] else [[dJ r a]]
theorem yM (r a:Int):(gq r a).length<=1:=by
 unfold gq;split
 ·simp
 ·split<;>simp
def km (a n:Int):Bool:=decide (n=0\/a<n\/n<WI.wrap (-a))
theorem Hd {n a:Int} {b:Nat} (e:gh[b]?=some (.cells [I a])):ac pg 113 [I n,Oe b 0] gh=some (B (km a n),gh):=by
 by_cases c:n=0
 ·refine ak (fn:=q1a) (s:=?J) rfl rfl (aa ?Z) ?Y
  case Z=>simp[q5t,q1a,c];rfl
  case Y=>simp[ag,results,q1a,ah,am,af,km,c]
 by_cases d:a<n
 ·refine ak (fn:=q1a) (s:=?K) rfl rfl (aa ?V) ?W
  case V=>simp[q5t,q1a,c,e,d];rfl
  case W=>simp[ag,results,q1a,ah,am,af,km,d]
 ·refine ak (fn:=q1a) (s:=?Ja) rfl rfl (aa ?Jb) ?Jc
  case Jb=>simp[q5t,q1a,c,e,d];rfl
  case Jc=>simp[ag,results,q1a,ah,am,af,km,c,d]
def ko (a:Int) (l:Oi):Int:=if 200<l.length then 2 else if l.any (km a) then 5 else 0
theorem He {vars:Int} {l:Oi} (c:Sz l.length):ac pg 94 [I vars,LI l] gh=some (I (ko vars l),gh):=by
 by_cases h:200<l.length
 ·have b:(200:Int)<(l.length:Int):=NW
  refine ak (fn:=q19) (s:=?J) rfl rfl (aa ?Z) ?Y
  case Z=>simp[q5s,q19,b];rfl
  case Y=>simp[ag,results,q19,ah,am,af,ko,h]
 ·have b:¬(200:Int)<(l.length:Int):=NW
  have d:∀x∈l,ac pg 113 (I x::[Oe gh.length 0]) (gh++[.cells [I vars]])=some (B (km vars x),gh++[.cells [I vars]]):=λx _=>Hd NX
  have:=tN (caps:=[Oe gh.length 0]) d NX c;cases a:l.any (km vars) with
  |true=>
   rw[a] at this;refine ak (fn:=q19) (s:=?K) rfl rfl (aa ?V) ?W
   case V=>simp[q5s,q19,b,this];rfl
   case W=>simp[ag,results,q19,ah,am,af,ko,h,a]
  |false=>
   rw[a] at this;refine ak (fn:=q19) (s:=?Ja) rfl rfl (aa ?Jb) ?Jc
   case Jb=>simp[q5s,q19,b,this];rfl
   case Jc=>simp[ag,results,q19,ah,am,af,ko,h,a]
def k0 (a:Int):Oj->Int
 |[]=>0
 |l::r=>if ko a l=0 then k0 a r else ko a l
def iJ (a:Int) (cls:Oj):Int:=if a<0\/200000<a then 3 else if 800000<cls.length then 2 else k0 a cls
def SL (cls:Oj):Prop:=∀l∈cls,Sz l.length
theorem yN {vars:Int} {cls:Oj} (f:SL cls) (g:cls.length<=800000):∀k i,i+k=cls.length->
  ab pg qe7 ⟨[(1,Ob),(19,NZ (cls.map λl=>LI l)),(20,I cls.length),(21,I (i:Int))],[[I vars,NZ (cls.map λl=>LI l)]],gh⟩=
   if k0 vars (cls.drop i)=0 then Og ⟨[],[],gh⟩ else Oh ⟨[(2,I (k0 vars (cls.drop i)))],[],gh⟩
 |0,i,h=>by
  rw[aM NW,k0,if_pos rfl];have a:¬(i:Int)<(cls.length:Int):=NW;refine (bn (s1:=?J) (aa ?Z)).trans ?Y
  case Z=>simp[q5q,a];rfl
  case Y=>simp[keep]
 | k+1,i,h=>by
  have a:i<cls.length:=NW;have b:(i:Int)<(cls.length:Int):=NW;have j:WI.wrap ((i:Int)+1)=((i+1:Nat):Int):=by rw[aq NW NW];omega
  have e:(cls.map λl=>LI l)[i]?=some (LI cls[i]):=by simp[aA a]
  have d:=He (gh:=gh) (vars:=vars) (f _ (cD a));rw[aJ a,k0];by_cases c:ko vars cls[i]=0
  ·rw[if_pos c]
   rw[c] at d;refine ay (s1:=⟨[(1,Ob),(19,NZ (cls.map λl=>LI l)),(20,I cls.length),(21,I ((i+1:Nat):Int))],[[I vars,NZ (cls.map λl=>LI l)]],gh⟩) (aa ?K) (yN f g k (i+1) NW)
   case K=>simp[q5q,b,e,d,j,-List.getElem?_map]
  ·rw[if_neg c,if_neg c]
   refine cx (aa ?V)
   case V=>simp[q5q,b,e,d,c,-List.getElem?_map]
theorem Hf {vars:Int} {cls:Oj} (k:SL cls):ac pg 59 [clV vars cls] gh=some (I (iJ vars cls),gh):=by
 by_cases d:vars<0
 ·refine ak (fn:=qf) (s:=?J) rfl rfl (aa ?Z) ?Y
  case Z=>simp[q39,qf,d];rfl
  case Y=>simp[ag,results,qf,ah,am,af,iJ,d]
 by_cases f:200000<vars
 ·refine ak (fn:=qf) (s:=?K) rfl rfl (aa ?V) ?W
  case V=>simp[q39,qf,d,f];rfl
  case W=>simp[ag,results,qf,ah,am,af,iJ,f]
 have a:¬(vars<0\/200000<vars):=NW;by_cases j:800000<cls.length
 ·have g:(800000:Int)<(cls.length:Int):=NW
  refine ak (fn:=qf) (s:=?Ja) rfl rfl (aa ?Jb) ?Jc
  case Jb=>simp[q39,qf,d,f,g];rfl
  case Jc=>simp[ag,results,qf,ah,am,af,iJ,a,j]
 have g:¬(800000:Int)<(cls.length:Int):=NW;have b:=yN (gh:=gh) (vars:=vars) k NW cls.length 0 NW;rw[bJ] at b;simp only[aR] at b;generalize i:(cls.map λl=>LI l)=L at *;have e:L.length=cls.length:=by rw[<-i];simp
 by_cases h:k0 vars cls=0
 ·rw[if_pos h] at b
  have m:=aa (c:=q99) (s:=⟨[],[],gh⟩) (r:=Oh ⟨[(2,I 0)],[],gh⟩) (pg:=pg) (by simp[q99]<;>rfl);refine ak (fn:=qf) (s:=?Jd) rfl rfl (aa ?Je) ?Jf
  case Je=>simp[q39,qf,d,f,e,g,b,m,i];rfl
  case Jf=>simp[ag,results,qf,ah,am,af,iJ,a,j,h]
 ·rw[if_neg h] at b
  refine ak (fn:=qf) (s:=?Jg) rfl rfl (aa ?Jh) ?Ji
  case Jh=>simp[q39,qf,d,f,e,g,b,i];rfl
  case Ji=>simp[ag,results,qf,ah,am,af,iJ,a,j]
def mV (a:Int) (cls:Oj):PV:=if iJ a cls=0 then .tup [clV a cls,I 0] else .tup [clV 0 [],I (iJ a cls)]
theorem Hg {vars:Int} {cls:Oj} (b:SL cls):ac pg 55 [clV vars cls] gh=some (mV vars cls,gh):=by
 have h:=Hf (gh:=gh) (vars:=vars) b;have hn:=jL cls;unfold clV at h;unfold mV clV;generalize (cls.map λl=>LI l)=L at *;by_cases a:iJ vars cls=0
 ·rw[a] at h
  refine ak (fn:=q22) (s:=?J) rfl rfl (aa ?Z) ?Y
  case Z=>simp[q98,q22,h];rfl
  case Y=>simp[ag,results,q22,ah,am,St.cellsAt,af,a,hn]
 ·refine ak (fn:=q22) (s:=?K) rfl rfl (aa ?V) ?W
  case V=>simp[q98,q22,h,a];rfl
  case W=>simp[ag,results,q22,ah,am,St.cellsAt,af,a]
def iK (a:Int):Oi->Oj
 |[]=>[]
 |r::l=>gq r a++iK a l
theorem rf (a:Int):∀l:Oi,(iK a l).length<=l.length
 |[]=>cU _
 |r::l=>by have:=yM r a;have:=rf a l;rw[iK,aQ,aV];omega
def Hh (e:Ol) (d:Int) (c:Om) (a:Oi) (b:Int) (cls:Oj) (i:Nat):St:=
 ⟨[(4,Oc),(7,Oe e.length 0),(33,LI a),(34,I a.length),(35,I (i:Int))],[[I d,.sl false 2 (c.map aj)],[I 0,Oa []]],mkC e b cls⟩
attribute [local simp] Hh
theorem yO (b a:Int):∀(i:Nat) (l:Om),SL (ji b a i l)
 |_,[]=>λl h=>by cases h
 | i,x::r=>λl h=>by
  rw[ji] at h;rcases cE.1 h with h|h
  ·simp only[kZ,List.mem_cons,List.not_mem_nil,or_false] at h
   rcases h with rfl|rfl|rfl<;>simp
  ·exact yO b a (i+1) r l h
theorem yP (a:Int):∀l:Oi,SL (iK a l)
 |[]=>λl h=>by cases h
 | r::t=>λl h=>by
  rw[iK] at h;rcases cE.1 h with h|h
  ·unfold gq at h
   split at h
   ·cases h
   ·split at h<;>simp at h<;>subst h<;>simp
  ·exact yP a t l h
theorem jM {a b:Oj} (ha:SL a) (c:SL b):SL (a++b):=λl h=>by
 rcases cE.1 h with h|h
 ·exact ha l h
 ·exact c l h
theorem Hi {vars:Int} {cls:Oj}:∃(n:Int) (c:Oj) (e:Int),mV vars cls= .tup [clV n c,I e]:=by
 unfold mV;split
 ·exact⟨_,_,_,rfl⟩
 ·exact⟨_,_,_,rfl⟩
end
end
section
attribute [local congr] bu
attribute [local simp] au
theorem lS:∀(v:On) (l:Om),∃t,dg v l=v++t
 |v,[]=>⟨[],by simp[dg]⟩
 |v,x::l=>by obtain⟨t,a⟩:=lS (v++[db v x.1&&db v x.2]) l;exact⟨[db v x.1&&db v x.2]++t,by rw[dg,a,aT]⟩
theorem t8 {v t:On} {n:Int} (h:(n/2).toNat<v.length):db (v++t) n=db v n:=by unfold db;simp only[aK,aI h]
theorem ua (v:On) (l m:Om):dg v (l++m)=dg (dg v l) m:=by
 induction l generalizing v with
 |nil=>rfl
 |cons x l a=>rw[bH,dg,dg,a]
theorem zj:∀{v:On} {l:Om} {i:Nat} (h:i<l.length),ra l[i] (v.length+i)->(dg v l).getD (v.length+i) false=(db (dg v l) l[i].1&&db (dg v l) l[i].2)
 |v,x::l,0,_,a=>by
  simp only[List.getElem_cons_zero,cG] at a ⊢;obtain⟨t,b⟩:=lS (v++[db v x.1&&db v x.2]) l;have e:dg v (x::l)=v++((db v x.1&&db v x.2)::t):=by rw[dg,b,aT];rfl
  rw[e,t8 a.1.2.2,t8 a.2.2.2];simp[aK]
 | v,x::l,i+1,h,a=>by simp only[List.getElem_cons_succ] at a ⊢;have:=zj (v:=v++[db v x.1&&db v x.2]) (l:=l) (i:=i) (by simpa using h) (by rw[show (v++[db v x.1&&db v x.2]).length+i=v.length+(i+1) by simp;omega];exact a);rw[show (v++[db v x.1&&db v x.2]).length+i=v.length+(i+1) by simp;omega] at this;rw[dg];exact this
section
variable {ins:Int} {ands:Om}
theorem HA {i:Nat} {l:Om} {x:Int×Int} (h:okA ins i l=true) (a:¬kX ins (i+l.length) x):okA ins i (l++[x])=true:=by
 induction l generalizing i with
 |nil=>simpa [okA] using a
 | cons y l b=>
  rw[okA] at h;split at h
  ·cases h
  ·rename_i c
   rw[bH,okA,if_neg c];refine b h ?_;rw[show i+1+l.length=i+(y::l).length by simp;omega];exact a
theorem zk (l:ck ins ands=0) {a b:Int} (ha:fF ins ands a=true) (F:fF ins ands b=true) (O:a<=b) (u:(e8 ins ands a b).1.length<=1000000) {v:On} (R:(v.length:Int)=ins) :
  ck ins (e8 ins ands a b).1=0/\ands.length<=(e8 ins ands a b).1.length/\fF ins (e8 ins ands a b).1 (e8 ins ands a b).2=true/\
  (∃t,dg (false::v) (e8 ins ands a b).1=dg (false::v) ands++t)/\
  db (dg (false::v) (e8 ins ands a b).1) (e8 ins ands a b).2=(db (dg (false::v) ands) a&&db (dg (false::v) ands) b):=by
 obtain⟨E,S,f,p⟩:=dX l;have D:=tT (false::v) ands;have T:fJ ins ands=1+ins+ands.length:=rfl;have L:(false::v).length=v.length+1:=rfl;have k:=ha;have j:=F;unfold fF at k j;rw[aH] at k j;have B:(dg (false::v) ands).getD 0 false=false:=by obtain⟨t,M⟩:=lS (false::v) ands;rw[M];rfl
 unfold e8;split
 ·rename_i h
  refine⟨l,cU _,?_,⟨[],NX⟩,?_⟩
  ·dsimp only;unfold fF;rw[aH];omega
  ·dsimp only
   have H:db (dg (false::v) ands) 0=false:=by unfold db;rw[show ((0:Int)/2).toNat=0 by decide,B];rfl
   rw[H];rcases h with rfl|⟨P,d⟩
   ·rw[H];rfl
   ·unfold db
    rw[P];have:a%2=1/\b%2≠1\/a%2≠1/\b%2=1:=NW;rcases this with ⟨m,z⟩|⟨m,z⟩
    ·rw[aG m,aF z];cases (dg (false::v) ands).getD (b/2).toNat false<;>rfl
    ·rw[aF m,aG z];cases (dg (false::v) ands).getD (b/2).toNat false<;>rfl
 ·rename_i h
  simp only[not_or] at h;split
  ·rename_i d
   refine⟨l,cU _,F,⟨[],NX⟩,?_⟩;rcases d with rfl|rfl
   ·have Q:db (dg (false::v) ands) 1=true:=by unfold db;rw[show ((1:Int)/2).toNat=0 by decide,B];rfl
    rw[Q];rfl
   ·rw[Bool.and_self]
  ·rename_i d
   simp only[not_or] at d;have m:a/2≠b/2:=λe=>h.2 ⟨e,d.2⟩
   cases c:atA ands (a,b) with
   | some i=>
    obtain⟨A,G⟩:=GK c;refine⟨l,cU _,?_,⟨[],NX⟩,?_⟩
    ·dsimp only;unfold fF;rw[aH];omega
    ·dsimp only
     have N:ands[i]=(a,b):=by rw[aA A] at G;exact cX G
     have g:=yI f A;have w:ra ands[i] ((false::v).length+i):=GV E (by simpa using g) NW NW;have:=zj A w;rw[N] at this;rw[<-this];unfold db;rw[show (2*(1+ins+(i:Int))/2).toNat=(false::v).length+i by omega,aF NW];cases (dg (false::v) ands).getD ((false::v).length+i) false<;>rfl
   | none=>
    have o:=atA_none.1 c;simp only[e8,c] at u;rw[if_neg (by rintro (q|q);exact h.1 q;exact h.2 q),if_neg (by rintro (q|q);exact d.1 q;exact d.2 q)] at u;simp only[aQ,aV,cF] at u;have s:¬kX ins (0+ands.length) (a,b):=by unfold kX;simp only;omega
    refine⟨?_,NX,?_,⟨[db (dg (false::v) ands) a&&db (dg (false::v) ands) b],by rw[ua];rfl⟩,?_⟩
    ·unfold ck
     rw[if_neg (λq=>q E),if_neg (by simp;omega),if_pos (HA f s),if_pos];rw[cR];exact⟨p,NX,λx I y C n=>by simp at C;subst C;subst n;exact o I⟩
    ·dsimp only;unfold fF;rw[aH];unfold fJ;simp only[aQ,aV,cF];omega
    ·dsimp only
     rw[ua]
     show db (dg (false::v) ands++[db (dg (false::v) ands) a&&db (dg (false::v) ands) b]) _=_
     generalize (db (dg (false::v) ands) a&&db (dg (false::v) ands) b)=r;unfold db;rw[show (2*fJ ins ands/2).toNat=(dg (false::v) ands).length by omega,aF NW];simp[aK]
theorem HB (e:ck ins ands=0) {a b:Int} (ha:fF ins ands a=true) (f:fF ins ands b=true) (c:(fy ins ands a b).1.length<=1000000) {v:On} (d:(v.length:Int)=ins) :
  ck ins (fy ins ands a b).1=0/\ands.length<=(fy ins ands a b).1.length/\fF ins (fy ins ands a b).1 (fy ins ands a b).2=true/\
  (∃t,dg (false::v) (fy ins ands a b).1=dg (false::v) ands++t)/\
  db (dg (false::v) (fy ins ands a b).1) (fy ins ands a b).2=(db (dg (false::v) ands) a&&db (dg (false::v) ands) b):=by
 unfold fy at c ⊢;split
 ·rename_i h
  rw[if_pos h] at c;have:=zk e f ha NW c d;rw[Bool.and_comm];exact this
 ·rename_i h
  rw[if_neg h] at c;exact zk e ha f NW c d
end
end
section
attribute [local congr] bu
attribute [local simp] au
theorem zl (b:Bool) (a:Ol):ac pg 114 [B b] a=some (I (if b then 1 else 0),a):=by
 cases b
 ·refine ak (fn:=q34) (s:=?J) rfl rfl (aa ?Z) ?Y
  case Z=>simp[qd2,q34];rfl
  case Y=>simp[ag,results,q34,ah,am,af]
 ·refine ak (fn:=q34) (s:=?K) rfl rfl (aa ?V) ?W
  case V=>simp[qd2,q34];rfl
  case W=>simp[ag,results,q34,ah,am,af]
def iM (n w:Int):Int:=if eR .i64 1 (w-1)<=n then WI.wrap (n-eR .i64 1 w) else n
theorem ub (n w:Int) (hw:1<=w/\w<=8) (a:Ol):ac pg 115 [I n,I w] a=some (I (iM n w),a):=by
 have e:WI.wrap (w-1)=w-1:=aq NW NW;have b:0<=w:=NW;by_cases h:eR .i64 1 (w-1)<=n
 ·refine ak (fn:=q35) (s:=?J) rfl rfl (aa ?Z) ?Y
  case Z=>simp[qd3,q35,e,hw.1,b,h];rfl
  case Y=>simp[ag,results,q35,ah,am,af,iM,h]
 ·refine ak (fn:=q35) (s:=?K) rfl rfl (aa ?V) ?W
  case V=>simp[qd3,q35,e,hw.1,h];rfl
  case W=>simp[ag,results,q35,ah,am,af,iM,h]
theorem HC (n w:Int) (hw:0<=w) (a:Ol):ac pg 65 [I n,I w] a=some (B (decide (0<=n/\n<eR .i64 1 w)),a):=by
 by_cases h:0<=n
 ·refine ak (fn:=q33) (s:=?J) rfl rfl (aa ?Z) ?Y
  case Z=>simp[qd0,q33,hw,h];rfl
  case Y=>simp[ag,results,q33,ah,am,af,h]
 ·refine ak (fn:=q33) (s:=?K) rfl rfl (aa ?V) ?W
  case V=>simp[qd0,q33,h];rfl
  case W=>simp[ag,results,q33,ah,am,af,h]
def dZ (k a b c n d w1:Int):Int:=
 if k=4 then mS .i64 a else if k=5 then WI.wrap (0-a) else if k=6 then jI .i64 a b else if k=7 then iOr .i64 a b else if k=8 then gz .i64 a b
 else if k=9 then WI.wrap (a+b) else if k=10 then WI.wrap (a-b) else if k=11 then WI.wrap (a*b) else if k=14 then eR .i64 a b else if k=15 then kg .i64 a b
 else if k=16 then (if a=b then 1 else 0) else if k=17 then (if a<b then 1 else 0) else if k=18 then (if iM a d<iM b w1 then 1 else 0)
 else if k=20 then iOr .i64 (eR .i64 a w1) b else if k=21 then kg .i64 a n else if k=23 then iM a d else if k=19 then (if a=1 then b else c)
 else if k=12 then (if b=0 then -1 else WI.wrap (Int.tdiv a b)) else if k=13 then (if b=0 then a else Int.tmod a b) else a
theorem HD (k d a b c n e w1 i:Int) (m:4<=k/\k<24) (o:0<=b) (hn:k=21->0<=n) (j:1<=e/\e<=8) (f:k=18\/k=20->1<=w1/\w1<=8) (g:Ol) :
  ac pg 96 [I k,I d,I a,I b,I c,I n,.agg [I e,I w1,I i]] g=some (I (dZ k a b c n e w1),g):=by
 have l:evK pg q1y fiK ⟨[(0,(.int .i64 k)),(1,(.int .i64 d)),(2,(.int .i64 a)),(3,(.int .i64 b)),(4,(.int .i64 c)),(5,(.int .i64 n)),(6,(.agg [(.int .i64 e),(.int .i64 w1),(.int .i64 i)]))],[],g⟩=Oh ⟨[(14,I (dZ k a b c n e w1))],[],g⟩:=by
  have:k=4\/k=5\/k=6\/k=7\/k=8\/k=9\/k=10\/k=11\/k=12\/k=13\/k=14\/k=15\/k=16\/k=17\/k=18\/k=19\/k=20\/k=21\/k=22\/k=23:=NW;rcases this with rfl|rfl|rfl|rfl|rfl|rfl|rfl|rfl|rfl|rfl|rfl|rfl|rfl|rfl|rfl|rfl|rfl|rfl|rfl|rfl
  case inr.inr.inr.inr.inr.inr.inr.inr.inl=>by_cases h:b=0<;>simp[q1y,dZ,h]
  case inr.inr.inr.inr.inr.inr.inr.inr.inr.inl=>by_cases h:b=0<;>simp[q1y,dZ,h]
  case inr.inr.inr.inr.inr.inr.inr.inr.inr.inr.inr.inr.inr.inr.inl=>
   have f:=f (.inl rfl);simp[q1y,dZ,zl,ub a e j,ub b w1 f]
  case inr.inr.inr.inr.inr.inr.inr.inr.inr.inr.inr.inr.inr.inr.inr.inl=>by_cases h:a=1<;>simp[q1y,dZ,h]
  case inr.inr.inr.inr.inr.inr.inr.inr.inr.inr.inr.inr.inr.inr.inr.inr.inl=>
   have f:0<=w1:=by have:=f (.inr rfl);omega
   simp[q1y,dZ,f]
  all_goals simp_all [q1y,dZ,zl,ub a e j]
 refine ak (fn:=qd1) rfl rfl (aa l) ?J;simp[ag,results,qd1,ah,am,af]
def cy (k d a b c n e w1:Int):Int:=jI .i64 (dZ k a b c n e w1) (WI.wrap (eR .i64 1 d-1))
theorem HE (k d a b c n e w1 f:Int) (h:4<=k/\k<24) (i:0<=b) (hn:k=21->0<=n) (l:1<=e/\e<=8) (j:k=18\/k=20->1<=w1/\w1<=8) (hw:0<=d) (g:Ol) :
  ac pg 66 [I k,I d,I a,I b,I c,I n,.agg [I e,I w1,I f]] g=some (I (cy k d a b c n e w1),g):=by
 refine ak (fn:=q8a) (s:=?J) rfl rfl (aa ?Z) ?Y
 case Z=>simp[qgu,q8a,HD k d a b c n e w1 f h i hn l j,hw];rfl
 case Y=>simp[ag,results,q8a,ah,am,af,cy]
def HF (k i x w:Int):Prop:=if i<ar k then 0<=x/\x<eR .i64 1 w else x=0
instance (k i x w:Int):Decidable (HF k i x w):=inferInstanceAs (Decidable (if i<ar k then 0<=x/\x<eR .i64 1 w else x=0))
theorem rj {k a n c w1 b:Int} (h:ir k a n c w1 b=0):(4<=k/\k<24)/\(1<=a/\a<=8)/\wOk k 0 c/\wOk k 1 w1/\wOk k 2 b/\∃s,cn k=some s/\b9 s a n c w1 b=true:=by
 unfold ir at h;cases d:cn k with
 |none=>rw[d] at h;cases h
 | some s=>
  rw[d] at h;simp only at h;by_cases f:1<=a/\a<=8
  ·by_cases e:wOk k 0 c/\wOk k 1 w1/\wOk k 2 b
   ·simp only[f,e,and_self,not_true,if_false] at h
    refine⟨?_,f,e.1,e.2.1,e.2.2,s,rfl,?_⟩
    ·simp only[cn] at d
     repeat' split at d
     all_goals first|(exfalso;cases d;done)|omega
    ·cases g:b9 s a n c w1 b with
     |true=>rfl
     |false=>rw[g] at h;cases h
   ·simp only[f,and_self,not_true,if_false,e,not_false_iff,if_true] at h;cases h
  ·simp only[f,not_false_iff,if_true] at h;cases h
theorem uc {k:Int} (h:4<=k/\k<24):0<ar k:=by
 simp only[ar]
 repeat' split
 all_goals omega
end
section
attribute [local congr] bu
attribute [local simp] au
theorem oI (k:Nat):((2^k:Nat):Int)=2^k:=Int.natCast_pow 2 k
theorem zn {k:Nat} (c:k<=61) (a:Ol):∀m i,i+m=k->ab pg qao ⟨[(0,I k),(3,I ((2^i:Nat):Int)),(4,I i)],[],a⟩=Og ⟨[(3,I ((2^k:Nat):Int))],[],a⟩
 |0,i,h=>by
  obtain rfl:i=k:=NW;refine (bn (s1:=?J) (aa ?Z)).trans ?Y
  case Z=>simp[qan];rfl
  case Y=>simp[keep]
 | m+1,i,h=>by
  have b:(i:Int)<(k:Int):=NW;have d:2^i<=2^60:=bQ NY NW;have f:WI.wrap (2*(2:Int)^i)=(2:Int)^(i+1):=by rw[<-oI,<-oI,Nat.pow_succ];generalize 2^i=q at d;rw[aq NW NW];omega
  have e:WI.wrap ((i:Int)+1)=(i:Int)+1:=by rw[aq NW NW]
  refine ay (s1:=⟨[(0,I k),(3,I ((2^(i+1):Nat):Int)),(4,I ((i+1:Nat):Int))],[],a⟩) (aa ?K) ?V
  case K=>simp[qan,f,e,b]
  case V=>exact zn c a m (i+1) NW
theorem HG {k:Nat} (d:k<=61) (a:Ol):ac pg 27 [I k] a=some (I ((2^k:Nat):Int),a):=by
 have c:=zn d a k 0 NW;refine ak (fn:=q6x) (s:=⟨[(2,I ((2^k:Nat):Int))],[],a⟩) rfl rfl (aa ?J) ?Z
 case J=>
  have b:ab pg qao ⟨[(0,I k),(3,I 1),(4,I 0)],[],a⟩=Og ⟨[(3,I ((2^k:Nat):Int))],[],a⟩:=c;simp[qfd,q6x,b,qfc]
 case Z=>simp[ag,results,q6x,ah,am,af]
theorem rk {w:Nat} (hw:1<=w/\w<=8):w=1\/w=2\/w=3\/w=4\/w=5\/w=6\/w=7\/w=8:=NW
theorem HH {A w:Nat} (hw:1<=w/\w<=8) (b:A<2^w):iM A w=if 2^(w-1)<=A then (A:Int)-((2^w:Nat):Int) else A:=by
 have c:=jf hw.2;have a:((w:Int)-1)=((w-1:Nat):Int):=NW;rw[iM,a,ot NW,ot hw.2,<-oI,<-oI,aq NW NW];by_cases h:2^(w-1)<=A
 ·rw[if_pos h,if_pos NW]
 ·rw[if_neg h,if_neg NW]
end
section
attribute [local congr] bu
attribute [local simp] au
theorem fA (k a b c n d w1:Int) {W:Nat} (e:W<=8):cy k W a b c n d w1=dZ k a b c n d w1%((2^W:Nat):Int):=by unfold cy;rw[GB e,Gy _ e,oI]
theorem ud (x:Int) (p:Nat) (h:0<=x):Int.tmod x (p:Int)=x%(p:Int):=Int.tmod_eq_emod_of_nonneg h
theorem HI {W A:Nat} (a:1<=W/\W<=8) (b:A<2^W):WI.wrap (WI.wrap (((2^W:Nat):Int)-1)-(A:Int))=mS .i64 A%((2^W:Nat):Int):=by have c:=jf a.2;rw[Gz NW,aq (n:=((2^W:Nat):Int)-1) NW NW,aq NW NW];rcases rk a with rfl|rfl|rfl|rfl|rfl|rfl|rfl|rfl<;>simp at b ⊢ <;>omega
theorem HJ {W A:Nat} (a:1<=W/\W<=8) (b:A<2^W):Int.tmod (WI.wrap (((2^W:Nat):Int)-(A:Int))) ((2^W:Nat):Int)=WI.wrap (0-(A:Int))%((2^W:Nat):Int):=by have c:=jf a.2;rw[aq NW NW,aq NW NW,ud _ _ NW];rcases rk a with rfl|rfl|rfl|rfl|rfl|rfl|rfl|rfl<;>simp at b ⊢ <;>omega
theorem HK {W A B:Nat} (a:1<=W/\W<=8) (c:A<2^W) (b:B<2^W):Int.tmod (WI.wrap (WI.wrap ((A:Int)+((2^W:Nat):Int))-B)) ((2^W:Nat):Int)=WI.wrap ((A:Int)-B)%((2^W:Nat):Int):=by have d:=jf a.2;rw[aq (n:=(A:Int)+((2^W:Nat):Int)) NW NW,aq NW NW,aq NW NW,ud _ _ NW];rcases rk a with rfl|rfl|rfl|rfl|rfl|rfl|rfl|rfl<;>simp at c b ⊢ <;>omega
theorem ue {W:Nat} {x:Int} (a:0<=x) (h:x<((2^W:Nat):Int)):x%((2^W:Nat):Int)=x:=Int.emod_eq_of_lt a h
theorem HL {W:Nat} (a:1<=W/\W<=8):WI.wrap (((2^W:Nat):Int)-1)=(-1)%((2^W:Nat):Int):=by rcases rk a with rfl|rfl|rfl|rfl|rfl|rfl|rfl|rfl<;>decide
theorem HM {W A B:Nat} (a:1<=W/\W<=8) (d:A<2^W):WI.wrap (Int.tdiv (A:Int) B)=WI.wrap (Int.tdiv (A:Int) B)%((2^W:Nat):Int):=by have e:=jf a.2;have c:Int.tdiv (A:Int) (B:Int)=((A/B:Nat):Int):=(Int.ofNat_tdiv _ _).symm;have b:A/B<=A:=Nat.div_le_self _ _;rw[c];generalize A/B=q at b;rw[aq NW NW,ue NW NW]
theorem HN {W A B:Nat} (c:A<2^W):Int.tmod (A:Int) B=Int.tmod (A:Int) B%((2^W:Nat):Int):=by have b:Int.tmod (A:Int) (B:Int)=((A%B:Nat):Int):=(Int.ofNat_tmod _ _).symm;have a:A%B<=A:=Nat.mod_le _ _;rw[b];generalize A%B=q at a;rw[ue NW NW]
theorem HO {W A B:Nat} (a:1<=W/\W<=8) (e:A<2^W) (d:B<W):Int.tmod (WI.wrap ((A:Int)*((2^B:Nat):Int))) ((2^W:Nat):Int)=eR .i64 A B%((2^W:Nat):Int):=by have f:=jf a.2;have c:=jf (show B<=8 by omega);have b:A*2^B<=256*256:=Nat.mul_le_mul NW c;rw[yB NW NW,<-Int.natCast_mul];generalize A*2^B=q at b;rw[aq NW NW,ud _ _ NW]
theorem HP {A B b a:Nat} (f:A<2^b) (d:B<2^a) (g:b+a<=8):WI.wrap (WI.wrap ((A:Int)*((2^a:Nat):Int))+B)=iOr .i64 (eR .i64 A a) B%((2^(b+a):Nat):Int):=by
 have j:=jf (show a<=8 by omega);have i:=jf (show b<=8 by omega);have h:=jf g;have c:(A+1)*2^a<=2^b*2^a:=cW _ f;rw[<-Nat.pow_add,Nat.succ_mul] at c;rw[yB NW NW,tQ NW NW,<-Int.natCast_mul];have e:A*2^a |||B=A*2^a+B:=by rw[Nat.mul_comm,Nat.two_pow_add_eq_or_of_lt d]
 rw[e];generalize A*2^a=q at c;rw[aq (n:=(q:Int)) NW NW,aq NW NW,ue NW NW];omega
end
section
variable {xs ys x y:On} {i n:Nat}
attribute [local congr] bu
attribute [local simp] au
def num:On->Nat
 |[]=>0
 |b::l=>(if b then 1 else 0)+2*num l
theorem cz:∀l:On,num l<2^l.length
 |[]=>by simp[num]
 |b::l=>by have:=cz l;rw[num,aV,Nat.pow_succ];split<;>omega
theorem jS:∀l m:On,num (l++m)=num l+2^l.length*num m
 |[],m=>by simp[num]
 |b::l,m=>by rw[bH,num,num,jS l m,aV,Nat.pow_succ,Nat.mul_comm (2^l.length) 2,Nat.mul_assoc];omega
theorem iN:∀n:Nat,num (List.replicate n false)=0
 |0=>rfl
 |n+1=>by rw[List.replicate_succ,num,iN n];simp
theorem oJ:∀l:On,num (l.map (!·))+num l+1=2^l.length
 |[]=>rfl
 |b::l=>by have:=oJ l;rw[bS,num,num,aV,Nat.pow_succ];cases b<;>simp<;>omega
theorem rl (l:On) (k:Nat):num (l.take k)=num l%2^k:=by
 by_cases h:k<=l.length
 ·have e:num l=num (l.take k)+2^k*num (l.drop k):=by
   have:=jS (l.take k) (l.drop k);rw[List.take_append_drop,cP,Nat.min_eq_left h] at this;exact this
  have a:=cz (l.take k);rw[cP,Nat.min_eq_left h] at a;rw[e,Nat.add_mul_mod_self_left,cT a]
 ·rw[bK NW]
  have:=cz l;have a:2^l.length<=2^k:=bQ NY NW;rw[cT NW]
theorem zo (l:On) (k:Nat):num (l.drop k)=num l/2^k:=by
 by_cases h:k<=l.length
 ·have e:num l=num (l.take k)+2^k*num (l.drop k):=by
   have:=jS (l.take k) (l.drop k);rw[List.take_append_drop,cP,Nat.min_eq_left h] at this;exact this
  have a:=cz (l.take k);rw[cP,Nat.min_eq_left h] at a;rw[e,Nat.add_mul_div_left _ _ (Nat.pow_pos NY),Nat.div_eq_of_lt a,cV]
 ·rw[aM NW]
  have:=cz l;have a:2^l.length<=2^k:=bQ NY NW;rw[Nat.div_eq_of_lt NW];rfl
theorem uf:∀(l:On) (i:Nat),(l.getD i false=true)↔num l/2^i%2=1
 |[],i=>by simp[num]
 |b::l,0=>by rw[num];cases b<;>simp<;>omega
 |b::l,i+1=>by
  have:=uf l i;rw[num,Nat.pow_succ,Nat.mul_comm (2^i) 2,<-Nat.div_div_eq_div_mul];have e:((if b then 1 else 0)+2*num l)/2=num l:=by cases b<;>simp<;>omega
  rw[e,<-this];rfl
def eo:On->On->Bool->On×Bool
 |x::xs,y::ys,c=>(((x ^^y) ^^c)::(eo xs ys ((x&&y)||((x ^^y)&&c))).1,(eo xs ys ((x&&y)||((x ^^y)&&c))).2)
 |_,_,c=>([],c)
theorem lg:∀{xs ys:On} {c:Bool},xs.length=ys.length->(eo xs ys c).1.length=xs.length
 |[],[],c,_=>rfl
 |x::xs,y::ys,c,h=>by rw[eo,aV,aV,lg (by simpa using h)]
theorem rm:∀{xs ys:On} {c:Bool},xs.length=ys.length->num (eo xs ys c).1+2^xs.length*(if (eo xs ys c).2 then 1 else 0)=num xs+num ys+(if c then 1 else 0)
 |[],[],c,_=>by cases c<;>simp[eo,num]
 |x::xs,y::ys,c,h=>by have:=rm (xs:=xs) (ys:=ys) (c:=(x&&y)||((x ^^y)&&c)) (by simpa using h);rw[eo,num,num,num,aV,Nat.pow_succ];simp only;generalize num (eo xs ys ((x&&y)||((x ^^y)&&c))).1=S,(eo xs ys ((x&&y)||((x ^^y)&&c))).2=C,2^xs.length=P at *;revert this;cases x<;>cases y<;>cases c<;>cases C<;>simp<;>omega
def iO (b a:On):Bool:= !(eo b (a.map (!·)) true).2
def li (b a:On):On:=(eo b (a.map (!·)) true).1
theorem ug (h:xs.length=ys.length):iO xs ys=decide (num xs<num ys):=by
 have a:=rm (xs:=xs) (ys:=ys.map (!·)) (c:=true) (by simpa using h);have e:=oJ ys;have d:=cz (eo xs (ys.map (!·)) true).1;rw[lg (by simpa using h)] at d;rw[h] at a d;unfold iO;cases b:(eo xs (ys.map (!·)) true).2 with
 |false=>
  rw[b] at a;simp at a;rw[aG NW];rfl
 |true=>
  rw[b] at a;simp at a;rw[aF NW];rfl
theorem rn (h:xs.length=ys.length):(li xs ys).length=xs.length:=lg (by simpa using h)
theorem uh (h:xs.length=ys.length):num (li xs ys)=(num xs+2^xs.length-num ys)%2^xs.length:=by
 have a:=rm (xs:=xs) (ys:=ys.map (!·)) (c:=true) (by simpa using h);have g:=oJ ys;have d:=cz (eo xs (ys.map (!·)) true).1;rw[lg (by simpa using h)] at d;have f:=cz ys;have i:=cz xs;unfold li;rw[<-h] at g f;generalize 2^xs.length=P at *;cases b:(eo xs (ys.map (!·)) true).2 with
 |false=>
  rw[b] at a;simp at a;rw[cT NW];omega
 |true=>
  rw[b] at a;simp at a;have e:num xs+P-num ys=num (eo xs (ys.map (!·)) true).1+P:=NW;rw[e,Nat.add_mod_right,cT d]
theorem zp (h:xs.length=ys.length):num (eo xs ys false).1=(num xs+num ys)%2^xs.length:=by
 have a:=rm (xs:=xs) (ys:=ys) (c:=false) h;have b:=cz (eo xs ys false).1;rw[lg h] at b;generalize 2^xs.length=P at *;cases d:(eo xs ys false).2 with
 |false=>
  rw[d] at a;simp at a;rw[<-a,cT b]
 |true=>
  rw[d] at a;simp at a;rw[<-a,Nat.add_mod_right,cT b]
def zB (n:Nat):On:=List.replicate n false
def d9 (c:Bool) (b a:On):On:=if c then b else a
def jm (x:On) (i:Nat):On:=zB i++x.take (x.length-i)
def jn (x:On):Nat->On->On->On
 |_,[],a=>a
 |i,c::y,a=>jn x (i+1) y (eo a (d9 c (jm x i) (zB x.length)) false).1
theorem zq (h:i<=x.length):(jm x i).length=x.length:=by simp[jm,zB];omega
theorem zr (h:i<=x.length):num (jm x i)=(2^i*num x)%2^x.length:=by unfold jm zB;rw[jS,iN,bM,cV,rl];rw[show x.length=i+(x.length-i) by omega,Nat.pow_add,Nat.add_sub_cancel_left,Nat.mul_mod_mul_left]
theorem ui {x:On}:∀{y:On} {i:Nat} {out:On},out.length=x.length->i+y.length<=x.length->
  (jn x i y out).length=x.length/\num (jn x i y out)=(num out+2^i*(num x*num y))%2^x.length
 |[],i,out,h,_=>by refine⟨h,?_⟩;have:=cz out;rw[h] at this;simp[jn,num,cT this]
 | c::y,i,out,h,e=>by
  rw[aV] at e;have a:(d9 c (jm x i) (zB x.length)).length=x.length:=by
   unfold d9;cases c
   ·simp[zB]
   ·simp only[if_true];exact zq NW
  have d:num (d9 c (jm x i) (zB x.length))=(if c then 2^i*num x else 0)%2^x.length:=by
   unfold d9;cases c
   ·simp[zB,iN]
   ·simp only[if_true];exact zr NW
  have b:(eo out (d9 c (jm x i) (zB x.length)) false).1.length=x.length:=by rw[lg (by rw[h,a]),h]
  obtain⟨g,f⟩:=ui (x:=x) (y:=y) (i:=i+1) b NW;refine⟨g,?_⟩;rw[jn,f,zp (by rw[h,a]),h,d,Nat.mod_add_mod,Nat.add_assoc,Nat.add_comm (num out),Nat.add_assoc,Nat.mod_add_mod];rw[num]
  congr 1
  cases c
  ·simp[Nat.pow_succ,Nat.mul_assoc,Nat.mul_comm,Nat.mul_left_comm];omega
  ·simp only[if_true]
   rw[Nat.mul_add,Nat.mul_add,Nat.mul_one,Nat.pow_succ];have:2^i*2*(num x*num y)=2^i*(num x*(2*num y)):=by rw[Nat.mul_assoc,Nat.mul_left_comm 2 (num x)]
   omega
theorem HQ (h:y.length=x.length):num (jn x 0 y (zB x.length))=(num x*num y)%2^x.length:=by rw[(ui (x:=x) (y:=y) (i:=0) (out:=zB x.length) (by simp[zB]) NW).2];simp[zB,iN]
theorem HR (h:y.length=x.length):(jn x 0 y (zB x.length)).length=x.length:=
 (ui (x:=x) (y:=y) (i:=0) (out:=zB x.length) (by simp[zB]) NW).1
def ovS (n:Nat) (w:On) (b:Bool) (left:On):On×Bool:=
 (d9 (!iO (b::left.take n) w) (li (b::left.take n) w) (b::left.take n),!iO (b::left.take n) w)
def ovB (n:Nat) (w:On):On->On×On
 |[]=>(zB (n+1),[])
 |b::x=>((ovS n w b (ovB n w x).1).1,(ovS n w b (ovB n w x).1).2::(ovB n w x).2)
theorem ro {n:Nat} {w:On} (hw:w.length=n+1):∀x:On,(ovB n w x).1.length=n+1/\(ovB n w x).2.length=x.length
 |[]=>by simp[ovB,zB]
 |b::x=>by
  obtain⟨d,c⟩:=ro hw x;have a:(b::(ovB n w x).1.take n).length=n+1:=by simp[d]
  refine⟨?_,by simp[ovB,c]⟩;rw[ovB,ovS];simp only;unfold d9;split
  ·rw[rn (by rw[a,hw]),a]
  ·exact a
theorem uj {n:Nat} {y:On} (i:y.length=n) (g:0<num y):∀x:On,num (ovB n (y++[false]) x).1=num x%num y/\num (ovB n (y++[false]) x).2=num x/num y
 |[]=>by simp[ovB,zB,iN,num]
 | b::x=>by
  obtain⟨s,p⟩:=uj i g x;have hw:(y++[false]).length=n+1:=by simp[i]
  have c:num (y++[false])=num y:=by rw[jS];simp[num]
  obtain⟨l,u⟩:=ro hw x;have h:=cz y;rw[i] at h;have w:num x%num y<num y:=Nat.mod_lt _ g;have m:num ((ovB n (y++[false]) x).1.take n)=num x%num y:=by rw[rl,s,cT NW]
  have k:(b::(ovB n (y++[false]) x).1.take n).length=n+1:=by simp[l]
  have j:num (b::(ovB n (y++[false]) x).1.take n)=(if b then 1 else 0)+2*(num x%num y):=by rw[num,m]
  have o:(if b then 1 else 0:Nat)<=1:=by cases b<;>simp
  have d:=Nat.div_add_mod (num x) (num y);rw[ovB,ovS];simp only;rw[num,ug (by rw[k,hw]),c,j,num,p];generalize z:(if b then 1 else 0:Nat)=β,hr:num x%num y=r,v:num x/num y=q at *;by_cases f:β+2*r<num y
  ·rw[aG f]
   have e:β+2*num x=num y*(2*q)+(β+2*r):=by rw[<-d,Nat.mul_left_comm];omega
   refine⟨?_,?_⟩
   ·simp only[d9,Bool.not_true,bR,if_false]
    rw[j,e,Nat.mul_add_mod,cT f]
   ·rw[e,Nat.mul_add_div g,Nat.div_eq_of_lt f];simp
  ·rw[aF f]
   have e:β+2*num x=num y*(2*q+1)+(β+2*r-num y):=by
    have t:num y*(2*q+1)=num y*(2*q)+num y:=by rw[Nat.mul_add,Nat.mul_one]
    rw[<-d,Nat.mul_add,Nat.mul_left_comm,t];omega
   refine⟨?_,?_⟩
   ·simp only[d9,Bool.not_false,if_true]
    rw[uh (by rw[k,hw]),j,c,k,e,Nat.mul_add_mod,cT (a:=β+2*r-num y) NW];have:2^(n+1)=2*2^n:=by rw[Nat.pow_succ,Nat.mul_comm]
    rw[show β+2*r+2^(n+1)-num y=(β+2*r-num y)+2^(n+1) by omega,Nat.add_mod_right,cT NW]
   ·rw[e,Nat.mul_add_div g,Nat.div_eq_of_lt NW];simp;omega
def ku (a:Bool) (x:On) (n:Nat):On:=if n<x.length then (if a then zB n++x.take (x.length-n) else x.drop n++zB n) else zB x.length
def shB (a:Bool):Nat->On->On->On
 |_,[],x=>x
 |i,c::y,x=>shB a (i+1) y (d9 c (ku a x (2^i)) x)
theorem uk {a:Bool}:(ku a x n).length=x.length:=by
 unfold ku;split
 ·cases a
  ·simp[zB];omega
  ·simp[zB];omega
 ·simp[zB]
theorem HS:num (ku true x n)=(num x*2^n)%2^x.length:=by
 unfold ku;split
 ·rename_i h
  have:=zr (x:=x) (i:=n) NW;rw[Nat.mul_comm];exact this
 ·rename_i h
  rw[zB,iN];rw[show n=x.length+(n-x.length) by omega,Nat.pow_add,<-Nat.mul_assoc,Nat.mul_right_comm,Nat.mul_mod_left]
theorem HT:num (ku false x n)=num x/2^n:=by
 unfold ku;have a:=cz x;split
 ·rename_i h
  simp only[bR,if_false];rw[jS,zB,iN,Nat.mul_zero,cG,zo]
 ·rename_i h
  rw[zB,iN,Nat.div_eq_of_lt];exact aO a (bQ NY NW)
theorem ul {a:Bool}:∀{y:On} {i:Nat} {x:On},(shB a i y x).length=x.length
 |[],i,x=>rfl
 |c::y,i,x=>by
  rw[shB,ul];unfold d9;split
  ·exact uk
  ·rfl
theorem zt:∀{y:On} {i:Nat} {x:On},num (shB true i y x)=(num x*2^(2^i*num y))%2^x.length
 |[],i,x=>by simp[shB,num,cT (cz x)]
 | c::y,i,x=>by
  rw[shB,zt,num];have e:2^i*((if c then 1 else 0)+2*num y)=(if c then 2^i else 0)+2^(i+1)*num y:=by rw[Nat.mul_add,Nat.pow_succ,Nat.mul_assoc];cases c<;>simp
  rw[e];cases c
  ·simp[d9]
  ·simp only[d9,if_true]
   rw[uk,HS,Nat.pow_add 2 (2^i),Nat.mod_mul_mod,Nat.mul_assoc]
theorem zu:∀{y:On} {i:Nat} {x:On},num (shB false i y x)=num x/2^(2^i*num y)
 |[],i,x=>by simp[shB,num]
 | c::y,i,x=>by
  rw[shB,zu,num];have e:2^i*((if c then 1 else 0)+2*num y)=(if c then 2^i else 0)+2^(i+1)*num y:=by rw[Nat.mul_add,Nat.pow_succ,Nat.mul_assoc];cases c<;>simp
  rw[e];cases c
  ·simp[d9]
  ·simp only[d9,if_true]
   rw[HT,Nat.pow_add 2 (2^i),Nat.div_div_eq_div_mul]
end
section
attribute [local congr] bu
attribute [local simp] au
structure BC where
 m0:PV
 m1:PV
 m2:PV
 m3:PV
 m4:PV
 bits:PV
 post:Ol
def BC.g (H:BC) (a:Ol) (b:Int) (A:Om):Ol:=
 a++ .map (gn (byL b 0 A)):: .cells [I b,.sl true 2 (A.map aj),.mp a.length]:: .cells [Oe (a.length+1) 0,H.m0,H.m1,H.m2,H.m3,H.m4,H.bits]::H.post
def BC.push (H:BC) (a:Ol):BC:=⟨H.m0,H.m1,H.m2,H.m3,H.m4,H.bits,H.post++a⟩
theorem na (H:BC) (b a:Ol):(H.push b).push a=H.push (b++a):=by simp[BC.push]
theorem fY (H:BC):H.push []=H:=by simp[BC.push]
section
variable {pre post gh:Ol} {x y z:GObj}
theorem zw:(pre++x::y::post)[pre.length]?=some x:=NX
theorem zx:(pre++x::y::post)[pre.length+1]?=some y:=NX
theorem HU:(pre++x::y::post).set pre.length z=pre++z::y::post:=NX
theorem HW:(pre++x::y::post).set (pre.length+1) z=pre++x::z::post:=by simp[List.set_append_right]
end
theorem zy (a:Int):∀(j:Nat) (l:Om) (x:Int×Int),byL a j l++[(x,I (2*(1+a+((j+l.length:Nat):Int))))]=byL a j (l++[x])
 |j,[],x=>by simp[byL]
 |j,y::l,x=>by have:=zy a (j+1) l x;rw[show j+1+l.length=j+(y::l).length by simp;omega] at this;simp only[byL,bH,this]
theorem HX {ins:Int} {A:Om} {x:Int×Int} (h:x∉A):jg (byL ins 0 A) x (I (2*fJ ins A))=byL ins 0 (A++[x]):=by have a:=zy ins 0 A x;rw[cV] at a;rw[yC (by rw[tS];exact h),<-a];rfl
section
variable {pre:Ol} {ins:Int} {A:Om} {H:BC}
theorem HY:(H.g pre ins A)[pre.length]?=some (.map (gn (byL ins 0 A))):=zw
theorem zz:(H.g pre ins A)[pre.length+1]?=some (.cells [I ins,.sl true 2 (A.map aj),.mp pre.length]):=zx
theorem jo:(H.g pre ins A)[pre.length+2]?=some (.cells [Oe (pre.length+1) 0,H.m0,H.m1,H.m2,H.m3,H.m4,H.bits]):=by unfold BC.g;simp
theorem rq:(H.g pre ins A).length=pre.length+3+H.post.length:=by unfold BC.g;simp;omega
theorem HZ {B':Om} {a:BC} (h:a.bits=H.bits/\a.m0=H.m0/\a.m1=H.m1/\a.m2=H.m2/\a.m3=H.m3/\a.m4=H.m4):pre.length+2<(H.g pre ins A).length/\(a.g pre ins B')[pre.length+2]?=(H.g pre ins A)[pre.length+2]?:=by obtain⟨i,f,e,d,c,b⟩:=h;exact⟨by rw[rq];omega,by rw[jo,jo,i,f,e,d,c,b]⟩
theorem rt:pre.length+2<(H.g pre ins A).length:=(HZ (B':=A) ⟨rfl,rfl,rfl,rfl,rfl,rfl⟩).1
theorem zA (u:0<=ins/\ins<=1000) (w:A.length<=1000000) {a b:Int} (ha:0<=a/\a<2002002) (s:0<=b) :
  ab pg q1n ⟨[(0,Oe (pre.length+1) 0),(1,I a),(2,I b)],[],H.g pre ins A⟩=Oh ⟨[(6,I (e8 ins A a b).2)],[],H.g pre ins (e8 ins A a b).1⟩:=by
 by_cases l:a=0
 ·refine aa ?_
  simp[q1n,l,e8]
 by_cases f:gz .i64 a 1=b
 ·refine aa ?_
  have e:e8 ins A a b=(A,0):=by unfold e8;rw[if_pos (.inr ((qZ ha s).1 f))]
  rw[e];simp[q1n,l,f]
 have q:¬(a/2=b/2/\a≠b):=λh=>f ((qZ ha s).2 h)
 have o:e8 ins A a b=if a=1\/a=b then (A,b) else match atA A (a,b) with
  |some i=>(A,2*(1+ins+i))
  |none=>(A++[(a,b)],2*fJ ins A):=by unfold e8;exact if_neg (by rintro (h|h);exact l h;exact q h)
 by_cases k:a=1
 ·refine aa ?_
  rw[o,if_pos (.inl k)];subst k;simp[q1n,f]
 by_cases n:a=b
 ·refine aa ?_
  rw[o,if_pos (.inr n)];subst n;simp[q1n,l,f,k]
 rw[if_neg (by rintro (h|h);exact k h;exact n h)] at o;have c:kj (byL ins 0 A) (a,b)=(atA A (a,b)).map λj=>I (2*(1+ins+((0+j:Nat):Int))):=yD ins (a,b) 0 A
 cases d:atA A (a,b) with
 |some i=>
  have r:e8 ins A a b=(A,2*(1+ins+i)):=by rw[o,d]
  rw[d] at c;simp only[cJ,cV] at c;rw[r];refine aa ?_;simp[q1n,l,f,k,n,zz,HY,yG,c]
 | none=>
  have r:e8 ins A a b=(A++[(a,b)],2*fJ ins A):=by rw[o,d]
  rw[d] at c;simp only[Option.map_none] at c;have t:=GJ (gh:=H.g pre ins A) u (show A.length<=1000001 by omega);unfold gu BC.g at t;have v:WI.wrap (2*fJ ins A)=2*fJ ins A:=by unfold fJ;exact aq NW NW
  have p:(A.length+1)*16<=maxBytes:=by have:=MB;omega
  have m:=HX (ins:=ins) (atA_none.1 d);rw[r];refine aa ?_;unfold BC.g;rw[<-m];simp[q1n,l,f,k,n,zw,zx,HU,HW,yG,c,t,v,p,au,yF,aj]
theorem Ia (e:0<=ins/\ins<=1000) (d:A.length<=1000000) {a b:Int} (ha:0<=a/\a<2002002) (f:0<=b/\b<2002002) :
  ac pg 49 [Oe (pre.length+1) 0,I a,I b] (H.g pre ins A)=some (I (fy ins A a b).2,H.g pre ins (fy ins A a b).1):=by
 by_cases h:b<a
 ·have c:=zA (H:=H) (pre:=pre) e d f ha.1
  refine ak (fn:=q27) (s:=⟨[(6,I (fy ins A a b).2)],[],H.g pre ins (fy ins A a b).1⟩) rfl rfl (aa ?J) ?Z
  case J=>simp[q9j,q27,h,c,fy,h]
  case Z=>simp[ag,results,q27,ah,am,af]
 ·have c:=zA (H:=H) (pre:=pre) e d ha f.1
  refine ak (fn:=q27) (s:=⟨[(6,I (fy ins A a b).2)],[],H.g pre ins (fy ins A a b).1⟩) rfl rfl (aa ?Y) ?K
  case Y=>simp[q9j,q27,h,c,fy,h]
  case K=>simp[ag,results,q27,ah,am,af]
end
def Lt (a:Int) (v:On) (A:Om) (n:Int) (b:Bool):Prop:=fF a A n=true/\db (dg (false::v) A) n=b
def Stp (a:Int) (A b:Om) (c:Nat):Prop:=ck a b=0/\b.length<=A.length+c/\∃t,b=A++t
def Ls (a:Int) (v:On) (A:Om):Oi->On->Prop
 |[],[]=>True
 |x::c,b::d=>Lt a v A x b/\Ls a v A c d
 |_,_=>False
def cZ (a:Int):Int:=gz .i64 a 1
section
variable {ins:Int} {v:On} {A A' C:Om} {c d:Nat}
theorem Stp.refl (h:ck ins A=0):Stp ins A A 0:=⟨h,NW,[],NX⟩
theorem Stp.trans (b:Stp ins A A' c) (a:Stp ins A' C d):Stp ins A C (c+d):=by obtain⟨_,b,t,f⟩:=b;obtain⟨g,a,u,e⟩:=a;exact⟨g,NW,t++u,by rw[e,f,aT]⟩
theorem Stp.mono (h:Stp ins A A' c) (a:c<=d):Stp ins A A' d:=⟨h.1,by have:=h.2.1;omega,h.2.2⟩
theorem zC {n:Int} (h:fF ins A n=true):0<=n/\n<2*(1+ins+A.length):=by
 unfold fF fJ at h
 rwa [aH] at h
theorem Lt.mono (g:(v.length:Int)=ins) {n:Int} {b:Bool} (h:Lt ins v A n b) (s:Stp ins A A' c):Lt ins v A' n b:=by
 obtain⟨f,e⟩:=h;obtain⟨_,_,t,rfl⟩:=s;have hw:=zC f;have d:=tT (false::v) A;rw[aV] at d;refine⟨?_,?_⟩
 ·unfold fF fJ
  rw[aH,aQ];omega
 ·obtain⟨u,a⟩:=lS (dg (false::v) A) t
  rw[ua,a,t8 NW];exact e
theorem Ls.mono (b:(v.length:Int)=ins) (s:Stp ins A A' c):∀{a:Oi} {d:On},Ls ins v A a d->Ls ins v A' a d
 |[],[],_=>trivial
 |_::_,_::_,h=>⟨h.1.mono b s,Ls.mono b s h.2⟩
theorem Ls.len:∀{a:Oi} {b:On},Ls ins v A a b->b.length=a.length
 |[],[],_=>rfl
 |_::_,_::_,h=>by rw[aV,aV,Ls.len h.2]
theorem Ls.app:∀{b a:Oi} {c cs:On},Ls ins v A b c->Ls ins v A a cs->Ls ins v A (b++a) (c++cs)
 |[],_,[],_,_,h=>h
 |_::_,_,_::_,_,h,k=>⟨h.1,Ls.app h.2 k⟩
theorem Ls.take:∀{a:Oi} {b:On} (n:Nat),Ls ins v A a b->Ls ins v A (a.take n) (b.take n)
 |[],[],n,_=>by simp[Ls]
 |_::_,_::_,0,_=>trivial
 |_::_,_::_,n+1,h=>⟨h.1,Ls.take n h.2⟩
theorem Ls.drop:∀{a:Oi} {b:On} (n:Nat),Ls ins v A a b->Ls ins v A (a.drop n) (b.drop n)
 |[],[],n,_=>by simp[Ls]
 |_::_,_::_,0,h=>h
 |_::_,_::_,n+1,h=>Ls.drop n h.2
theorem ru (d:ck ins A=0) {n:Int} {b:Bool} (h:Lt ins v A n b):0<=n/\n<2002002:=by obtain⟨c,a,_,_⟩:=dX d;exact GS c a h.1
theorem Ib {a:Int} (h:0<=a/\a<2002002):cZ a=if a%2=0 then a+1 else a-1:=by
 unfold cZ;split
 ·exact (qZ h NW).2 ⟨NW,NW⟩
 ·exact (qZ h NW).2 ⟨NW,NW⟩
theorem Lt.not (f:ck ins A=0) {n:Int} {b:Bool} (h:Lt ins v A n b):Lt ins v A (cZ n) (!b):=by
 have hn:=ru f h;have hw:=zC h.1;have e:=Ib hn;obtain⟨g,c⟩:=h;have d:cZ n/2=n/2:=by rw[e];split<;>omega
 refine⟨?_,?_⟩
 ·unfold fF fJ
  rw[aH];omega
 ·unfold db at c ⊢
  rw[d,<-c];by_cases a:n%2=1
  ·rw[aG a,aF NW];cases (dg (false::v) A).getD (n/2).toNat false<;>rfl
  ·rw[aF a,aG NW];cases (dg (false::v) A).getD (n/2).toNat false<;>rfl
theorem oO (b:0<=ins):Lt ins v A 0 false:=by
 refine⟨?_,?_⟩
 ·unfold fF fJ;rw[aH];omega
 ·obtain⟨t,a⟩:=lS (false::v) A
  unfold db;rw[a];rfl
theorem oQ (b:0<=ins):Lt ins v A 1 true:=by
 refine⟨?_,?_⟩
 ·unfold fF fJ;rw[aH];omega
 ·obtain⟨t,a⟩:=lS (false::v) A
  unfold db;rw[a];rfl
theorem Ls.zeros (a:0<=ins):∀n:Nat,Ls ins v A (List.replicate n 0) (zB n)
 |0=>trivial
 |n+1=>⟨oO a,Ls.zeros a n⟩
theorem Ls.not (b:ck ins A=0):∀{a:Oi} {c:On},Ls ins v A a c->Ls ins v A (a.map cZ) (c.map (!·))
 |[],[],_=>trivial
 |_::_,_::_,h=>⟨h.1.not b,Ls.not b h.2⟩
theorem Ic (a b:Int):∃t,(fy ins A a b).1=A++t/\t.length<=1:=by
 have h:∀a b:Int,∃t,(e8 ins A a b).1=A++t/\t.length<=1:=λa b=>by
  unfold e8;split
  ·exact⟨[],NX,NX⟩
  ·split
   ·exact⟨[],NX,NX⟩
   ·split
    ·exact⟨[],NX,NX⟩
    ·exact⟨[(a,b)],NX,NX⟩
 unfold fy;split
 ·exact h b a
 ·exact h a b
end
section
variable {pre:Ol} {ins:Int} {v:On} {A:Om}
theorem kx (a:Int) (b:Ol):ac pg 231 [I a] b=some (I (cZ a),b):=by
 refine ak (fn:=q5g) (s:=?J) rfl rfl (aa ?Z) ?Y
 case Z=>simp[qdx,q5g];rfl
 case Y=>simp[ag,results,q5g,ah,am,af,cZ]
theorem jT (c:Ol) (j:(v.length:Int)=ins) (d:ck ins A=0) (q:A.length+1<=1000000) {a b:Int} {i h:Bool} (ha:Lt ins v A a i) (f:Lt ins v A b h) :
  ∃A' n,(∀H:BC,ac pg 49 [Oe (c.length+1) 0,I a,I b] (H.g c ins A)=some (I n,H.g c ins A'))/\Stp ins A A' 1/\Lt ins v A' n (i&&h):=by
 obtain⟨l,k,_,_⟩:=dX d;obtain⟨t,e,r⟩:=Ic (ins:=ins) (A:=A) a b;obtain⟨p,_,o,_,m⟩:=HB d ha.1 f.1 (by rw[e,aQ];omega) j;refine⟨(fy ins A a b).1,(fy ins A a b).2,λH=>Ia l k (ru d ha) (ru d f),⟨p,by rw[e,aQ];omega,t,e⟩,o,?_⟩;rw[m,ha.2,f.2]
theorem rv (c:Ol) (j:(v.length:Int)=ins) (f:ck ins A=0) (k:A.length+1<=1000000) {a b:Int} {e d:Bool} (ha:Lt ins v A a e) (m:Lt ins v A b d) :
  ∃A' n,(∀H:BC,ac pg 223 [Oe (c.length+2) 0,I a,I b] (H.g c ins A)=some (I n,H.g c ins A'))/\Stp ins A A' 1/\Lt ins v A' n (e||d):=by
 obtain⟨A',n,o,h,i⟩:=jT c j f k (ha.not f) (m.not f);refine⟨A',cZ n,λH=>?_,h,?_⟩
 ·have l:=o H
  refine ak (fn:=q54) (s:=?J) rfl rfl (aa ?Z) ?Y
  case Z=>simp[qdk,q54,jo,kx,l];rfl
  case Y=>simp[ag,results,q54,ah,am,af]
 ·have:=i.not h.1
  rw[show (e||d)= !(!e&& !d) by cases e<;>cases d<;>rfl];exact this
theorem rz (c:Ol) (d:(v.length:Int)=ins) (j:ck ins A=0) (D:A.length+3<=1000000) {a b:Int} {f e:Bool} (ha:Lt ins v A a f) (k:Lt ins v A b e) :
  ∃A' n,(∀H:BC,ac pg 224 [Oe (c.length+2) 0,I a,I b] (H.g c ins A)=some (I n,H.g c ins A'))/\Stp ins A A' 3/\Lt ins v A' n (f ^^e):=by
 obtain⟨L,C,u,h,q⟩:=jT c d j NW ha (k.not j);have F:=h.2.1;obtain⟨G,B,t,i,p⟩:=jT c d h.1 NW ((ha.not j).mono d h) (k.mono d h);have E:=i.2.1;obtain⟨z,m,r,l,o⟩:=rv c d i.1 NW (q.mono d i) p;refine⟨z,m,λH=>?_,(h.trans (i.trans l)).mono NW,?_⟩
 ·have y:=u H
  have x:=t H;have w:=r H;refine ak (fn:=q55) (s:=?J) rfl rfl (aa ?Z) ?Y
  case Z=>simp[qdl,q55,jo,kx,y,keptB,rt,List.getElem?_cons_zero,-getElem?_pos,x,w];rfl
  case Y=>simp[ag,results,q55,ah,am,af]
 ·rw[show (f ^^e)=((f&& !e)||(!f&&e)) by cases f<;>cases e<;>rfl]
  exact o
theorem Ie (d:Ol) (e:(v.length:Int)=ins) (m:ck ins A=0) (G:A.length+3<=1000000) {c a b:Int} {f k j:Bool} (i:Lt ins v A c f) (ha:Lt ins v A a k) (u:Lt ins v A b j) :
  ∃A' n,(∀H:BC,ac pg 238 [Oe (d.length+2) 0,I c,I a,I b] (H.g d ins A)=some (I n,H.g d ins A'))/\Stp ins A A' 3/\Lt ins v A' n (if f then k else j):=by
 obtain⟨O,F,y,h,t⟩:=jT d e m NW i ha;have M:=h.2.1;obtain⟨N,E,x,l,r⟩:=jT d e h.1 NW ((i.not m).mono e h) (u.mono e h);have L:=l.2.1;obtain⟨D,p,w,o,q⟩:=rv d e l.1 NW (t.mono e l) r;refine⟨D,p,λH=>?_,(h.trans (l.trans o)).mono NW,?_⟩
 ·have C:=y H
  have B:=x H;have z:=w H;refine ak (fn:=q5m) (s:=?J) rfl rfl (aa ?Z) ?Y
  case Z=>simp[qe4,q5m,jo,kx,C,keptB,rt,List.getElem?_cons_zero,-getElem?_pos,B,z];rfl
  case Y=>simp[ag,results,q5m,ah,am,af]
 ·rw[show (if f then k else j)=((f&&k)||(!f&&j)) by cases f<;>cases k<;>cases j<;>rfl]
  exact q
end
end
section
attribute [local congr] bu
attribute [local simp] au
theorem wrS' (n:Nat) (h:n<=1000000):WI.wrap ((n:Int)+1)=((n+1:Nat):Int):=by rw[aq NW NW];omega
theorem get_at {a rx:Oi} {x:Int} {i:Nat} (h:a.length=i):((a++x::rx).map I)[i]?=some (I x):=by subst h;simp
theorem fZ (l:Oi):dr (l.map I)=true:=by
 induction l with
 |nil=>rfl
 |cons x l a=>simpa using a
def YBk (c:PV) (a:Oi) (d:Ol):Prop:=c= NZ (a.map I)\/∃b,c= .bs true b 0 a.length 1/\d[b]?=some (.cells (a.map I))
section
variable {gh gh':Ol}
theorem If {X j:Ok} {s:PV} {g:Oi} {f:Nat} {c:Ok} {q:PV} {w:Ok->Ok} {x o:Int} {n i:Nat} (C:i<n) (hn:n<=1000) (p:X[i]?=some (I x)) (k:g.length=n) (A:YBk s g gh) (z:j.length=i)
  (B:(q= .fn f c/\w=λt=>t++c)\/(q= .bfn f c/\w=λt=>c++t)) (e:c.all az=true) (u:ac pg f (w [I x,I (g.getD i 0)]) gh=some (I o,gh')) :
  evK pg q1z fiK ⟨[(0,(NZ X)),(1,s),(2,q),(7,(Oa j)),(10,(.int .i64 n)),(11,(.int .i64 i))],[],gh⟩=Og ⟨[(0,NZ X),(1,s),(2,q),(7,Oa (j++[I o])),(10,I n),(11,I ((i+1:Nat):Int))],[],gh'⟩:=by
 have d:(i:Int)<(n:Int):=NW;have r:=wrS' i NW;have h:(j.length+1)*8<=maxBytes:=by have:=MB;omega
 have m:(g.map I)[i]?=some (I (g.getD i 0)):=by rw[aB,aK,aA NW];rfl
 generalize g.getD i 0=y at *;rcases B with ⟨rfl,rfl⟩|⟨rfl,rfl⟩
 ·have l:ac pg f (I x::I y::c) gh=some (I o,gh'):=u
  rcases A with rfl|⟨b,rfl,v⟩
  ·generalize g.map I=a at *
   simp[q1z,d,p,m,lQ e,l,h,r,-List.getElem?_map]
  ·rw[k]
   generalize g.map I=a at *;simp[q1z,d,p,m,v,lQ e,l,h,r]
 ·rcases A with rfl|⟨b,rfl,v⟩
  ·generalize g.map I=a at *
   simp[q1z,d,p,m,lQ e,u,h,r,-List.getElem?_map]
  ·rw[k]
   generalize g.map I=a at *;simp[q1z,d,p,m,v,lQ e,u,h,r]
end
theorem zD {c j a:Oi} {r p:PV} {f:Nat} {b:Ok} {q:Ok->Ok} {e:Nat->Ol} (s:c.length<=1000) (g:j.length=c.length) (n:a.length=c.length) (v:∀i,YBk r j (e i))
  (t:(p= .fn f b/\q=λl=>l++b)\/(p= .bfn f b/\q=λl=>b++l)) (d:b.all az=true)
  (u:∀i,i<c.length->ac pg f (q [I (c.getD i 0),I (j.getD i 0)]) (e i)=some (I (a.getD i 0),e (i+1))):∀k i,i+k=c.length->
  ab pg qdj ⟨[(0,LI c),(1,r),(2,p),(7,Oa ((a.take i).map I)),(10,I c.length),(11,I (i:Int))],[],e i⟩=Og ⟨[(7,Oa (a.map I))],[],e c.length⟩
 |0,i,h=>by
  obtain rfl:i=c.length:=NW;rw[bK NW];have m:¬(c.length:Int)<(c.length:Int):=NW;refine (bn (s1:=?J) (aa ?Z)).trans ?Y
  case Z=>simp[q1z,m];rfl
  case Y=>simp[keep]
 | k+1,i,h=>by
  have o:i<c.length:=NW;have w:(c.map I)[i]?=some (I (c.getD i 0)):=by rw[aB,aK,aA o];rfl
  refine ay (aa (If o s w g (v i) (by simp;omega) t d (u i o))) ?_;have x:(a.take i).map I++[I (a.getD i 0)]=(a.take (i+1)).map I:=by
   have:a.take (i+1)=a.take i++[a.getD i 0]:=by rw[List.take_add_one,aK,aA NW];rfl
   rw[this,bI];rfl
  rw[x];exact zD s g n v t d u k (i+1) NW
theorem YBk.st {a:PV} {c:Oi} {d:Ol} {nl:Nat} (h:YBk a c d):bj nl a=true:=by rcases h with rfl|⟨b,rfl,_⟩<;>rfl
theorem um {xs ys outs:Oi} {vy fn:PV} {f:Nat} {caps:Ok} {h:Ok->Ok} {hs:Nat->Ol} (m:xs.length<=1000) (d:ys.length=xs.length) (e:outs.length=xs.length) (l:∀i,YBk vy ys (hs i))
  (k:(fn= .fn f caps/\h=λc=>c++caps)\/(fn= .bfn f caps/\h=λc=>caps++c)) (b:caps.all az=true)
  (n:∀i,i<xs.length->ac pg f (h [I (xs.getD i 0),I (ys.getD i 0)]) (hs i)=some (I (outs.getD i 0),hs (i+1))) :
  ac pg 222 [LI xs,vy,fn] (hs 0)=some (LI outs,hs xs.length):=by
 have g:=zD m d e l k b n xs.length 0 NW;simp only[List.take_zero,bU,aR] at g;have j:ab pg q8v ⟨[(7,Oa (outs.map I))],[],hs xs.length⟩=Oh ⟨[(6,LI outs)],[],hs xs.length⟩:=aa (by simp[q8v]);have a:=(l 0).st (nl:=0);generalize hs xs.length=o,hs 0=p at *;refine ak (fn:=q3q) (s:=⟨[(6,LI outs)],[],o⟩) rfl rfl (aa ?J) ?Z
 case J=>
  rcases k with ⟨rfl,_⟩|⟨rfl,_⟩
  ·simp[q8w,q3q,a,g,j]
  ·simp[q8w,q3q,a,g,j]
 case Z=>simp[ag,results,q3q,ah,am,af]
theorem Ig (a b:Int) (c:Ol):ac pg 236 [I a,I b] c=some (I (cZ a),c):=by
 refine ak (fn:=q5k) (s:=?J) rfl rfl (aa ?Z) ?Y
 case Z=>simp[qe2,q5k,kx];rfl
 case Y=>simp[ag,results,q5k,ah,am,af]
theorem rA {xs:Oi} (b:xs.length<=1000) (a:Ol):ac pg 219 [LI xs] a=some (LI (xs.map cZ),a):=by
 have h:=um (xs:=xs) (ys:=xs) (outs:=xs.map cZ) (vy:=LI xs) (fn:= .fn 236 []) (f:=236) (caps:=[]) (hs:=λ_=>a) b rfl NX (λ_=> .inl rfl) (.inl ⟨rfl,rfl⟩) rfl (λi c=>by
  have e:(xs.map cZ).getD i 0=cZ (xs.getD i 0):=by simp[aK,aA c]
  rw[e];exact Ig _ _ a)
 generalize xs.map cZ=ys at *;refine ak (fn:=q51) (s:=⟨[(2,LI ys)],[],a⟩) rfl rfl (aa ?J) ?Z
 case J=>simp[qdg,q51,h]
 case Z=>simp[ag,results,q51,ah,am,af,fZ]
theorem rC {n:Nat} (h:n<=1000000):(n:Int)*8<=(maxBytes:Int):=by have:=MB;omega
theorem ky {n:Nat} (h:n<=1000000) (b:Ol):ac pg 220 [I (n:Int)] b=some (Oa ((List.replicate n (0:Int)).map I),b):=by
 refine ak (fn:=q52) (s:=⟨[(2,Oa ((List.replicate n (0:Int)).map I))],[],b⟩) rfl rfl (aa ?J) ?Z
 case J=>simp[qdh,q52,rC h]
 case Z=>
  have:=fZ (List.replicate n (0:Int));generalize (List.replicate n (0:Int)).map I=a at *;simp[ag,results,q52,af,this]
section
variable {ins:Int} {v:On}
theorem uo {pre:Ol} (t:(v.length:Int)=ins) {A:Om} {c:Nat} {f:Nat} {ap:BC->Ok->Ok} {CC:BC->Prop} {op:Bool->Bool->Bool}
  (p:∀j d,Stp ins A j d->j.length+c<=1000000->∀a b F E,Lt ins v j a F->Lt ins v j b E->∃r n,(∀H:BC,CC H->ac pg f (ap H [I a,I b]) (H.g pre ins j)=some (I n,H.g pre ins r))/\Stp ins j r c/\Lt ins v r n (op F E)) :
  ∀ (k m:Oi) (q cs:On) (j:Om) (d:Nat),Stp ins A j d->m.length=k.length->j.length+c*k.length<=1000000->Ls ins v j k q->Ls ins v j m cs->
   ∃(l:Nat->Om) (h:Oi),l 0=j/\h.length=k.length/\(∀i,i<k.length->∀H:BC,CC H->ac pg f (ap H [I (k.getD i 0),I (m.getD i 0)]) (H.g pre ins (l i))=some (I (h.getD i 0),H.g pre ins (l (i+1))))/\
    Stp ins j (l k.length) (c*k.length)/\Ls ins v (l k.length) h (List.zipWith op q cs)
 |[],[],[],[],j,d,s,_,_,_,_=>⟨λ_=>j,[],rfl,rfl,λi u=>absurd u NX,Stp.refl s.1,trivial⟩
 | x::k,y::m,b::q,e::cs,j,d,s,L,C,B,z=>by
  simp only[aV] at L C;rw[Nat.mul_add,Nat.mul_one] at C;obtain⟨r,n,M,o,G⟩:=p j d s NW x y b e B.1 z.1;have Q:=o.2.1;obtain⟨l,h,w,P,O,D,N⟩:=uo t p k m q cs r (d+c) (s.trans o) NW NW (B.2.mono t o) (z.2.mono t o);refine⟨λi=>match i with|0=>j|i+1=>l i,n::h,rfl,by simp[P],?_,?_,?_⟩
  ·intro i u H hH
   match i with
   |0=>
    have:=M H hH
    show ac pg f (ap H [I x,I y]) (H.g pre ins j)=some (I n,H.g pre ins (l 0))
    rw[w];exact this
   |i+1=>exact O i (by simpa using u) H hH
  ·show Stp ins j (l k.length) _
   rw[w] at *;exact (o.trans D).mono (by rw[aV,Nat.mul_add];omega)
  ·show Ls ins v (l k.length) (n::h) (op b e::List.zipWith op q cs)
   exact⟨G.mono t (by rw[<-w] at *;exact D),N⟩
def YB (b:Ol) (H:BC) (c:PV) (a:Oi):Prop:=c=LI a\/∃j,c= .bs true (b.length+3+j) 0 a.length 1/\H.post[j]?=some (.cells (a.map I))
theorem oU {a:Ol} {A:Om} {H:BC} {j:Nat} {x:GObj} (h:H.post[j]?=some x):(H.g a ins A)[a.length+3+j]?=some x:=by unfold BC.g;rw[aN NW,show a.length+3+j-a.length=j+3 by omega];simpa using h
theorem YB.ok {a:Ol} {A:Om} {H:BC} {c:PV} {b:Oi} (h:YB a H c b):YBk c b (H.g a ins A):=by
 rcases h with rfl|⟨j,rfl,d⟩
 ·exact .inl rfl
 ·exact .inr ⟨_,rfl,oU d⟩
theorem YB.push {b:Ol} {H:BC} {f:PV} {e:Oi} {a:Ol} (h:YB b H f e):YB b (H.push a) f e:=by
 rcases h with rfl|⟨j,rfl,d⟩
 ·exact .inl rfl
 ·refine .inr ⟨j,rfl,?_⟩
  have c:j<H.post.length:=by
   rcases Nat.lt_or_ge j H.post.length with h|h
   ·exact h
   ·rw[List.getElem?_eq_none h] at d;cases d
  show (H.post++a)[j]?=_
  rw[aI c];exact d
def pkJ (a:Ol) (c:Int):Ol:=[.cells [Oe (a.length+2) 0],.cells [I c]]
def kz (b:Ol) (a:BC):Ok:=[Oe (b.length+3+(a.post.length-2)) 0,Oe (b.length+3+(a.post.length-1)) 0]
theorem nb (pre:Ol) (z:(v.length:Int)=ins) {A:Om} (hc:ck ins A=0) {c:Int} {bc:Bool} {xs ys:Oi} {bs cs:On} (hs:A.length+3*xs.length<=1000000) (hl:xs.length<=1000) (r:ys.length=xs.length)
  (D:Lt ins v A c bc) (P:Ls ins v A xs bs) (O:Ls ins v A ys cs) :
  ∃N outs,(∀(H:BC) (vy:PV),YB pre H vy ys->ac pg 234 [Oe (pre.length+2) 0,I c,LI xs,vy] (H.g pre ins A)=some (LI outs,(H.push (pkJ pre c)).g pre ins N))/\Stp ins A N (3*xs.length)/\Ls ins v N outs (d9 bc bs cs):=by
 have C:∀l d,Stp ins A l d->l.length+3<=1000000->∀a b G F,Lt ins v l a G->Lt ins v l b F->∃w n,(∀k:BC,(∃H:BC,k=H.push (pkJ pre c))->ac pg 237 ((λk y=>y++kz pre k) k [I a,I b]) (k.g pre ins l)=some (I n,k.g pre ins w))/\Stp ins l w 3/\Lt ins v w n ((λp q=>if bc then p else q) G F):=by
  intro l d s E a b G F ha hb;obtain⟨w,n,h1,Q,U⟩:=Ie pre z s.1 E (D.mono z s) ha hb;refine⟨w,n,?_,Q,U⟩;rintro k ⟨H,rfl⟩;have e1:=h1 (H.push (pkJ pre c));have T:((H.push (pkJ pre c)).g pre ins l)[pre.length+3+H.post.length]?=some (.cells [Oe (pre.length+2) 0]):=oU (by simp[BC.push,pkJ]);have S:((H.push (pkJ pre c)).g pre ins l)[pre.length+3+(H.post.length+1)]?=some (.cells [I c]):=oU (by simp[BC.push,pkJ]);have t:kz pre (H.push (pkJ pre c))=[Oe (pre.length+3+H.post.length) 0,Oe (pre.length+3+(H.post.length+1)) 0]:=by simp[kz,BC.push,pkJ]
  show ac pg 237 ([I a,I b]++kz pre (H.push (pkJ pre c))) _=_
  rw[t];generalize pre.length+3+H.post.length=q1,pre.length+3+(H.post.length+1)=R,(H.push (pkJ pre c)).g pre ins l=G1,(H.push (pkJ pre c)).g pre ins w=L at *;refine ak (fn:=q5l) (s:=⟨[(6,I n)],[],L⟩) rfl rfl (aa ?J) ?Z
  case J=>simp[qe3,q5l,T,S,e1]
  case Z=>simp[ag,results,q5l,ah,am,af]
 obtain⟨M,outs,g1,g2,g3,g4,g5⟩:=uo (pre:=pre) (f:=237) (ap:=λk y=>y++kz pre k) (CC:=λk=>∃H:BC,k=H.push (pkJ pre c)) (op:=λp q=>if bc then p else q) z C xs ys bs cs A 0 (Stp.refl hc) r hs P O;refine⟨M xs.length,outs,?_,g4,?_⟩
 ·intro H vy o
  have u:=um (xs:=xs) (ys:=ys) (outs:=outs) (vy:=vy) (fn:= .fn 237 (kz pre (H.push (pkJ pre c)))) (f:=237) (caps:=kz pre (H.push (pkJ pre c))) (hs:=λi=>(H.push (pkJ pre c)).g pre ins (M i)) hl r g2 (λi=>o.push.ok) (.inl ⟨rfl,rfl⟩) rfl (λi hi=>g3 i hi _ ⟨H,rfl⟩);simp only[g1] at u;have ad:=(o.ok (ins:=ins) (A:=A)).st (nl:=0);have t:kz pre (H.push (pkJ pre c))=[Oe (pre.length+3+H.post.length) 0,Oe (pre.length+3+(H.post.length+1)) 0]:=by simp[kz,BC.push,pkJ]
  have B:(H.push (pkJ pre c)).g pre ins A=H.g pre ins A++[.cells [Oe (pre.length+2) 0]]++[.cells [I c]]:=by simp[BC.push,pkJ,BC.g]
  have m:=rq (pre:=pre) (ins:=ins) (A:=A) (H:=H);rw[t,B] at u;generalize (H.push (pkJ pre c)).g pre ins (M xs.length)=L,H.g pre ins A=G1 at *;refine ak (fn:=q3s) (s:=⟨[(8,LI outs)],[],L⟩) rfl rfl (aa ?J) ?Z
  case J=>
   simp only[aT,bH,bF] at u;rw[show pre.length+3+(H.post.length+1)=pre.length+3+H.post.length+1 by omega] at u;generalize pre.length+3+H.post.length=q at *;rcases o with rfl|⟨j,rfl,_⟩
   ·simp[q94,q3s,m,u]
   ·generalize pre.length+3+j=R at *
    simp[q94,q3s,m,u]
  case Z=>simp[ag,results,q3s,ah,am,af]
 ·have x:∀(bs cs:On),bs.length=cs.length->List.zipWith (λp q=>if bc then p else q) bs cs=d9 bc bs cs:=by
   intro bs
   induction bs with
   |nil=>intro cs h;cases cs with|nil=>cases bc<;>rfl|cons _ _=>cases h
   | cons b bs X=>
    intro cs h;cases cs with
    |nil=>cases h
    |cons e cs=>
     rw[List.zipWith_cons_cons,X cs (by simpa using h)];cases bc<;>rfl
  rw[<-x bs cs (by rw[P.len,O.len,r])];exact g5
end
end
section
attribute [local congr] bu
attribute [local simp] au
section
variable {pre:Ol} {ins:Int} {v:On}
theorem Ih {H:BC} {A r q p m l:Om} {X a acc:Ok} {x y c d o e f k:Int} {n i:Nat} (D:i<n) (hn:n<=1000) (t:X[i]?=some (I x)) (s:a[i]?=some (I y)) (j:acc.length=i)
  (B:ac pg 224 [Oe (pre.length+2) 0,I x,I y] (H.g pre ins A)=some (I d,H.g pre ins r))
  (z:ac pg 224 [Oe (pre.length+2) 0,I d,I c] (H.g pre ins r)=some (I o,H.g pre ins q))
  (w:ac pg 49 [Oe (pre.length+1) 0,I x,I y] (H.g pre ins q)=some (I e,H.g pre ins p))
  (v:ac pg 49 [Oe (pre.length+1) 0,I d,I c] (H.g pre ins p)=some (I f,H.g pre ins m))
  (u:ac pg 223 [Oe (pre.length+2) 0,I e,I f] (H.g pre ins m)=some (I k,H.g pre ins l)) :
  evK pg q56 fiK ⟨[(0,(Oe (pre.length+2) 0)),(1,(NZ X)),(2,(NZ a)),(3,(.int .i64 c)),(10,(Oa acc)),(14,(.int .i64 n)),(15,(.int .i64 i))],[],(H.g pre ins A)⟩=Og ⟨[(0,Oe (pre.length+2) 0),(1,NZ X),(2,NZ a),(3,I k),(10,Oa (acc++[I o])),(14,I n),(15,I ((i+1:Nat):Int))],[],H.g pre ins l⟩:=by
 have b:(i:Int)<(n:Int):=NW;have C:=wrS' i NW;have h:(acc.length+1)*8<=maxBytes:=by have:=MB;omega
 simp[q56,b,t,s,B,z,w,v,u,jo,keptB,rt,List.getElem?_cons_zero,-getElem?_pos,h,C]
theorem zE (h:Ol) (j:(v.length:Int)=ins):∀(k p a q acc:Oi) (t cs:On) (A:Om) (c:Int) (u:Bool),ck ins A=0->A.length+9*k.length<=1000000->q.length=a.length->p.length=k.length->acc.length=a.length->a.length+k.length<=1000->
  Ls ins v A k t->Ls ins v A p cs->Lt ins v A c u->
  ∃C l B,(∀H:BC,ab pg qdm ⟨[(0,Oe (h.length+2) 0),(1,LI (a++k)),(2,LI (q++p)),(3,I c),(10,Oa (acc.map I)),(14,I ((a.length+k.length:Nat):Int)),(15,I (a.length:Int))],[],H.g h ins A⟩=Og ⟨[(3,I B),(10,Oa ((acc++l).map I))],[],H.g h ins C⟩)/\
   Stp ins A C (9*k.length)/\Ls ins v C l (eo t cs u).1/\Lt ins v C B (eo t cs u).2
 |[],[],a,q,acc,[],[],A,c,u,M,_,_,_,_,_,_,_,m=>by
  refine⟨A,[],c,λH=>?_,Stp.refl M,trivial,m⟩;have L:¬((a.length:Nat):Int)<((a.length+([]:Oi).length:Nat):Int):=NX;refine (bn (s1:=?J) (aa ?Z)).trans ?Y
  case Z=>simp[q56,L];rfl
  case Y=>simp[keep]
 | x::k,y::p,a,q,acc,b::t,e::cs,A,c,u,M,hs,hp,hl,ha,hn,G,F,m=>by
  simp only[aV] at hs hl hn;obtain⟨A1,d,h1,s1,P⟩:=rz h j M NW G.1 F.1;have b1:=s1.2.1;obtain⟨A2,o,h2,z,l2⟩:=rz h j s1.1 NW P (m.mono j s1);have b2:=z.2.1;have E:=s1.trans z;obtain⟨A3,e',h3,s,X⟩:=jT h j z.1 NW (G.1.mono j E) (F.1.mono j E);have b3:=s.2.1;have O:=E.trans s;obtain⟨A4,f,h4,r,U⟩:=jT h j s.1 NW (P.mono j (z.trans s)) (m.mono j O);have b4:=r.2.1;obtain⟨A5,B,h5,w,T⟩:=rv h j r.1 NW (X.mono j r) U;have b5:=w.2.1;have D:=(O.trans r).trans w
  obtain⟨A6,l,N,g1,S,g3,g4⟩:=zE h j k p (a++[x]) (q++[y]) (acc++[o]) t cs A5 B _ w.1 NW (by simp;omega) NW (by simp;omega) (by simp;omega) (G.2.mono j D) (F.2.mono j D) T;refine⟨A6,o::l,N,λH=>?_,(D.trans S).mono (by simp only[aV];omega),?_,?_⟩
  ·have ex:((a++x::k).map I)[a.length]?=some (I x):=get_at rfl
   have ey:((q++y::p).map I)[a.length]?=some (I y):=get_at hp;have R:=Ih (H:=H) (acc:=acc.map I) (n:=a.length+(x::k).length) (i:=a.length) NX (by simp only[aV];omega) ex ey (by simpa using ha) (h1 H) (h2 H) (h3 H) (h4 H) (h5 H);rw[show acc.map I++[I o]=(acc++[o]).map I by simp] at R;refine ay (aa R) ?_;have Q:=g1 H;rw[show (a++[x]).length+k.length=a.length+(x::k).length by simp;omega,show (a++[x]).length=a.length+1 by simp,aT a [x] k,aT q [y] p,aT acc [o] l] at Q;exact Q
  ·rw[eo]
   exact⟨l2.mono j (((s.trans r).trans w).trans S),g3⟩
  ·rw[eo]
   exact g4
theorem rD (a:Ol) (l:(v.length:Int)=ins) {A:Om} (p:ck ins A=0) {xs ys:Oi} {c:Int} {f cs:On} {bc:Bool} (m:A.length+9*xs.length<=1000000) (hn:xs.length<=1000) (n:ys.length=xs.length)
  (k:Ls ins v A xs f) (j:Ls ins v A ys cs) (h:Lt ins v A c bc) :
  ∃d b e,(∀H:BC,ac pg 225 [Oe (a.length+2) 0,LI xs,LI ys,I c] (H.g a ins A)=some (.tup [LI b,I e],H.g a ins d))/\
   Stp ins A d (9*xs.length)/\Ls ins v d b (eo f cs bc).1/\Lt ins v d e (eo f cs bc).2:=by
 obtain⟨d,b,e,u,t,r,q⟩:=zE a l xs ys [] [] [] f cs A c bc p m rfl n rfl (by simpa using hn) k j h;refine⟨d,b,e,λH=>?_,t,r,q⟩;have i:=u H;simp only[bF,bU,cF,cV,aR] at i;have o:ab pg q8x ⟨[(3,I e),(10,Oa (b.map I))],[],H.g a ins d⟩=Oh ⟨[(8,LI b),(9,I e)],[],H.g a ins d⟩:=aa (by simp[q8x]);generalize H.g a ins d=w at *;generalize H.g a ins A=x at *;refine ak (fn:=q57) (s:=⟨[(8,LI b),(9,I e)],[],w⟩) rfl rfl (aa ?J) ?Z
 case J=>simp[qdn,q57,i,o]
 case Z=>simp[ag,results,q57,ah,am,af]
theorem uq (a:Ol) (j:(v.length:Int)=ins) {A:Om} (e:ck ins A=0) {xs ys:Oi} {f cs:On} (k:A.length+9*xs.length<=1000000) (hn:xs.length<=1000) (m:ys.length=xs.length)
  (i:Ls ins v A xs f) (h:Ls ins v A ys cs) :
  ∃d b,(∀H:BC,ac pg 221 [Oe (a.length+2) 0,LI xs,LI ys] (H.g a ins A)=some (LI b,H.g a ins d))/\Stp ins A d (9*xs.length)/\Ls ins v d b (li f cs):=by
 obtain⟨n,_,_,_⟩:=dX e;obtain⟨d,b,y,r,q,p,w⟩:=rD a j e k hn (by simpa using m) i (h.not e) (oQ n.1);refine⟨d,b,λH=>?_,q,p⟩;have o:=rA (xs:=ys) NW (H.g a ins A);have l:=r H;generalize H.g a ins d=t at *;generalize H.g a ins A=x,ys.map cZ=u at *;refine ak (fn:=q53) (s:=⟨[(6,LI b)],[],t⟩) rfl rfl (aa ?J) ?Z
 case J=>simp[qdi,q53,o,l]
 case Z=>simp[ag,results,q53,ah,am,af]
theorem ur (a:Ol) (l:(v.length:Int)=ins) {A:Om} (d:ck ins A=0) {xs ys:Oi} {h cs:On} (m:A.length+9*xs.length<=1000000) (hn:xs.length<=1000) (p:ys.length=xs.length)
  (k:Ls ins v A xs h) (j:Ls ins v A ys cs) :
  ∃b n,(∀H:BC,ac pg 232 [Oe (a.length+2) 0,LI xs,LI ys] (H.g a ins A)=some (I n,H.g a ins b))/\Stp ins A b (9*xs.length)/\Lt ins v b n (iO h cs):=by
 obtain⟨q,_,_,_⟩:=dX d;obtain⟨b,i,f,u,e,y,t⟩:=rD a l d m hn (by simpa using p) k (j.not d) (oQ q.1);refine⟨b,cZ f,λH=>?_,e,t.not e.1⟩;have r:=rA (xs:=ys) NW (H.g a ins A);have o:=u H;generalize H.g a ins b=w at *;generalize H.g a ins A=z,ys.map cZ=x at *;refine ak (fn:=q5h) (s:=⟨[(6,I (cZ f))],[],w⟩) rfl rfl (aa ?J) ?Z
 case J=>simp[qdy,q5h,r,o,kx]
 case Z=>simp[ag,results,q5h,ah,am,af]
theorem Ii {g r q:Ol} {X b Y:Oi} {a pk:Oi} {o:Bool} {c C:Int} {n i ly:Nat} (D:i<ly) (hn:n<=1000) (x:X.length=n) (u:i<=n) (w:(Y.map I)[i]?=some (I c)) (t:ly<=1000)
  (p:ac pg 234 [Oe (pre.length+2) 0,I c,LI (List.replicate i 0++X.take (n-i)),LI (List.replicate n 0)] g=some (LI pk,r))
  (y:ac pg 225 [Oe (pre.length+2) 0,LI b,LI pk,I 0] r=some (.tup [LI a,I C],q)) :
  evK pg q58 fiK ⟨[(0,(Oe (pre.length+2) 0)),(1,(LI X)),(7,(.sl o 1 (b.map I))),(14,(LI Y)),(15,(.int .i64 ly)),(16,(.int .i64 i))],[],g⟩=Og ⟨[(0,Oe (pre.length+2) 0),(1,LI X),(7,LI a),(14,LI Y),(15,I ly),(16,I ((i+1:Nat):Int))],[],q⟩:=by
 have e:(i:Int)<(ly:Int):=NW;have B:=wrS' i NW;have m:=ky (n:=i) NW g;have l:=ky (n:=n) NW g;have z:WI.wrap (((n:Nat):Int)-(i:Int))=((n-i:Nat):Int):=by rw[aq NW NW];omega
 have k:(i+(n-i))*8<=maxBytes:=by have:=MB;omega
 have d:n*8<=maxBytes:=by have:=MB;omega
 have A:(X.map I).length=n:=by simpa using x
 have s:(X.map I).take (n-i)=(X.take (n-i)).map I:=NX;have j:((List.replicate i (0:Int)).map I).length=i:=NX;have h:((X.take (n-i)).map I).length=n-i:=by simp;omega
 have f:(List.replicate i (0:Int)++X.take (n-i)).map I=(List.replicate i (0:Int)).map I++(X.take (n-i)).map I:=NX;unfold LI at *;rw[f] at p;generalize (X.take (n-i)).map I=F,X.map I=G,Y.map I=E,pk.map I=L,a.map I=M,b.map I=N,(List.replicate i (0:Int)).map I=RI,(List.replicate n (0:Int)).map I=H at *;have v:i<=n/\n-i<=n:=NW;simp[q58,e,w,m,l,A,z,B,s,j,h,k,d,p,y,v]
theorem zF (e:Ol) (r:(v.length:Int)=ins) {X:Oi} {z:On} (hX:X.length<=100):∀(h d:Oi) (cs:On) (A:Om) (f:Oi) (B:On) (o:Bool),ck ins A=0->A.length+12*X.length*h.length<=1000000->d.length+h.length<=X.length->f.length=X.length->
  Ls ins v A X z->Ls ins v A f B->Ls ins v A h cs->
  ∃G l a S,(∀H:BC,ab pg qdo ⟨[(0,Oe (e.length+2) 0),(1,LI X),(7,.sl o 1 (f.map I)),(14,LI (d++h)),(15,I ((d.length+h.length:Nat):Int)),(16,I (d.length:Int))],[],H.g e ins A⟩=Og ⟨[(7,.sl S 1 (l.map I))],[],(H.push a).g e ins G⟩)/\
   Stp ins A G (12*X.length*h.length)/\Ls ins v G l (jn z d.length cs B)
 |[],d,[],A,f,B,o,y,_,_,_,_,u,_=>by
  refine⟨A,f,[],o,λH=>?_,Stp.refl y,u⟩;have F:¬((d.length:Nat):Int)<((d.length+([]:Oi).length:Nat):Int):=NX;rw[fY];refine (bn (s1:=?J) (aa ?Z)).trans ?Y
  case Z=>simp[q58,F];rfl
  case Y=>simp[keep]
 | c::h,d,b::cs,A,f,B,o,y,O,T,x,q,u,N=>by
  simp only[aV] at O T;rw[Nat.mul_add,Nat.mul_one] at O;obtain⟨p,_,_,_⟩:=dX y;have t:Ls ins v A (List.replicate d.length 0++X.take (X.length-d.length)) (jm z d.length):=by unfold jm;rw[q.len];exact (Ls.zeros p.1 _).app (q.take _)
  have j:(List.replicate d.length (0:Int)++X.take (X.length-d.length)).length=X.length:=by simp;omega
  obtain⟨A1,pk,h1,s1,D⟩:=nb e r y (c:=c) (bc:=b) (xs:=List.replicate d.length 0++X.take (X.length-d.length)) (ys:=List.replicate X.length 0) (bs:=jm z d.length) (cs:=zB X.length) (by rw[j];omega) (by rw[j];omega) (by rw[j];simp) N.1 t (Ls.zeros p.1 _);rw[j] at s1;have b1:=s1.2.1;have E:pk.length=X.length:=by
   rw[<-D.len];unfold d9;split
   ·rw[zq (by rw[q.len];omega),q.len]
   ·simp[zB]
  obtain⟨A2,k,c2,h2,C,M,_⟩:=rD e r s1.1 (xs:=f) (ys:=pk) (c:=0) (bc:=false) NW NW NW (u.mono r s1) D (oO p.1);have b2:=C.2.1;have w:=s1.trans C;rw[x] at w;have m:k.length=X.length:=by rw[<-M.len,lg (by rw[u.len,D.len,x,E]),u.len,x]
  rw[x] at b2;obtain⟨A3,s,a,R,h3,Q,L⟩:=zF e r hX h (d++[c]) cs A2 k _ false C.1 NW (by simp;omega) m (q.mono r w) M (N.2.mono r w);refine⟨A3,s,pkJ e c++a,R,λH=>?_,(w.trans Q).mono (by rw[aV,Nat.mul_add];omega),?_⟩
  ·have U:=Ii (o:=o) (n:=X.length) (i:=d.length) (ly:=d.length+(c::h).length) (Y:=d++c::h) NX NW rfl NW (get_at rfl) (by simp only[aV];omega) (h1 H _ (.inl rfl)) (h2 (H.push (pkJ e c)))
   refine ay (aa U) ?_;have P:=h3 (H.push (pkJ e c));rw[show (d++[c]).length+h.length=d.length+(c::h).length by simp;omega,show (d++[c]).length=d.length+1 by simp,aT d [c] h,na] at P;exact P
  ·rw[jn]
   rw[show (d++[c]).length=d.length+1 by simp] at L;rw[q.len];exact L
theorem Ij (c:Ol) (q:(v.length:Int)=ins) {A:Om} (j:ck ins A=0) {xs ys:Oi} {f cs:On} (y:A.length+12*xs.length*xs.length<=1000000) (hn:xs.length<=100) (i:ys.length=xs.length)
  (h:Ls ins v A xs f) (p:Ls ins v A ys cs) :
  ∃e d b,(∀H:BC,ac pg 226 [Oe (c.length+2) 0,LI xs,LI ys] (H.g c ins A)=some (LI d,(H.push b).g c ins e))/\Stp ins A e (12*xs.length*xs.length)/\Ls ins v e d (jn f 0 cs (zB f.length)):=by
 obtain⟨t,_,_,_⟩:=dX j;obtain⟨e,d,b,o,w,l,u⟩:=zF c q hn ys [] cs A (List.replicate xs.length 0) (zB xs.length) true j (by rw[i];omega) (by simp;omega) NX h (Ls.zeros t.1 _) p;rw[i] at l;refine⟨e,d,b,λH=>?_,l,by rw[h.len];exact u⟩;have k:=w H;simp only[bF,cF,cV,aR] at k;have r:ab pg q8y ⟨[(7,.sl o 1 (d.map I))],[],(H.push b).g c ins e⟩=Oh ⟨[(6,LI d)],[],(H.push b).g c ins e⟩:=aa (by simp[q8y]);have m:=ky (n:=xs.length) NW (H.g c ins A);generalize (H.push b).g c ins e=x,H.g c ins A=z at *
 generalize (List.replicate xs.length (0:Int)).map I=a at *;refine ak (fn:=q59) (s:=⟨[(6,LI d)],[],x⟩) rfl rfl (aa ?J) ?Z
 case J=>simp[qdp,q59,m,k,r]
 case Z=>simp[ag,results,q59,ah,am,af]
end
end
section
attribute [local congr] bu
attribute [local simp] au
theorem ut {xs:Oi} (h:xs.length<=1000000) (a:Ol):ac pg 83 [LI xs] a=some (Oa (xs.map I),a):=by have b:=MB;have:ac pg 83 [NZ (xs.map I)] a=gy 1 8 [NZ (xs.map I)] a:=rfl;rw[this,gy,if_pos ⟨rfl,by rw[aW];omega⟩]
theorem Ik (n:Nat):List.flatMap PV.cells (List.replicate n (PV.int .i64 0))=(List.replicate n (0:Int)).map I:=by
 induction n with
 |zero=>rfl
 |succ n a=>rw[List.replicate_succ,List.replicate_succ,cS,a];rfl
theorem Il {n:Nat} (h:n<=1000000) (a:Ol):ac pg 392 [I (n:Int)] a=some (.bs true a.length 0 n 1,a++[.cells ((List.replicate n (0:Int)).map I)]):=by
 refine ak (fn:=q5n) (s:=⟨[(2,.bs true a.length 0 n 1)],[],a++[.cells ((List.replicate n (0:Int)).map I)]⟩) rfl rfl (aa ?J) ?Z
 case J=>
  have:=Ik n;simp[qe5,q5n,rC h,Int.toNat_natCast,this]
 case Z=>simp[ag,results,q5n,af]
def lT:On->Bool->Bool
 |[],c=>c
 |b::l,c=>lT l (c&& !b)
theorem uv:∀(l:On) (c:Bool),lT l c=(c&&decide (num l=0))
 |[],c=>by simp[lT,num]
 | b::l,c=>by
  rw[lT,uv l,num];cases b
  ·have:decide (0+2*num l=0)=decide (num l=0):=by congr 1;exact propext ⟨λh=>NW,λh=>NW⟩
   simp only[Bool.not_false,Bool.and_true,bR,if_false];rw[this]
  ·rw[aF (p:=(if true=true then 1 else 0)+2*num l=0) NX]
   simp
def qB (x y:On):On:=d9 (lT y true) ((zB x.length).map (!·)) (ovB x.length (y++[false]) x).2
def rB (x y:On):On:=d9 (lT y true) x ((ovB x.length (y++[false]) x).1.take x.length)
theorem Im {x y:On} (h:y.length=x.length):(qB x y).length=x.length:=by
 unfold qB d9;split
 ·simp[zB]
 ·exact (ro (by simp[h]) x).2
theorem Io {x y:On} (h:y.length=x.length):(rB x y).length=x.length:=by
 unfold rB d9;split
 ·rfl
 ·rw[cP,(ro (by simp[h]) x).1];omega
theorem Ip {x y:On} (h:y.length=x.length):num (qB x y)=if num y=0 then 2^x.length-1 else num x/num y:=by
 unfold qB d9;rw[uv,Bool.true_and];by_cases a:num y=0
 ·rw[aG a,if_pos rfl,if_pos a]
  have:=oJ (zB x.length);rw[zB,iN,bM] at this;unfold zB;omega
 ·rw[aF a,if_neg a]
  exact (uj h NW x).2
theorem Iq {x y:On} (h:y.length=x.length):num (rB x y)=if num y=0 then num x else num x%num y:=by
 unfold rB d9;rw[uv,Bool.true_and];by_cases a:num y=0
 ·rw[aG a,if_pos rfl,if_pos a]
 ·rw[aF a,if_neg a]
  have c:=(uj h NW x).1;have b:=cz y;have d:=Nat.mod_lt (num x) (show 0<num y by omega);rw[h] at b
  show num ((ovB x.length (y++[false]) x).1.take x.length)=_
  rw[rl,c,cT NW]
section
variable {pre:Ol} {ins:Int} {v:On}
theorem Ir {A:Om} {H:BC} {x y:GObj} {a:Ol}:((H.push (x::a)).g pre ins A).set (pre.length+3+H.post.length) y=(H.push (y::a)).g pre ins A:=by unfold BC.g BC.push;rw[List.set_append_right _ _ NW,show pre.length+3+H.post.length-pre.length=H.post.length+3 by omega];simp
theorem Is {A:Om} {H:BC} {x:GObj} {a:Ol}:((H.push (x::a)).g pre ins A)[pre.length+3+H.post.length]?=some x:=oU (by simp[BC.push])
theorem It {t s r p q:Ol} {X Y W e S P:Ok} {left:Ok} {x a:Int} {n i b:Nat} {o:Bool} (u:i<n) (hn:n<=100) (w:X[i]?=some (I x)) (z:left.length=n+1) (m:e.length=n)
  (C:ac pg 232 [Oe (pre.length+2) 0,NZ (I x::left.take n),NZ W] t=some (I a,s))
  (B:ac pg 221 [Oe (pre.length+2) 0,NZ (I x::left.take n),NZ W] s=some (NZ S,r))
  (A:ac pg 234 [Oe (pre.length+2) 0,I (cZ a),NZ S,NZ (I x::left.take n)] r=some (NZ P,p))
  (v:p[b]?=some (.cells e)) (c:p.set b (.cells (e.set i (I (cZ a))))=q) :
  evK pg q5a fiK ⟨[(0,(Oe (pre.length+2) 0)),(1,(NZ X)),(2,(NZ Y)),(8,(.int .i64 n)),(9,(.sl o 1 left)),(10,(Oa W)),(11,(.bs true b 0 n 1)),(12,(.int .i64 i))],[],t⟩=Og ⟨[(0,Oe (pre.length+2) 0),(1,NZ X),(2,NZ Y),(8,I n),(9,NZ P),(10,Oa W),(11,.bs true b 0 n 1),(12,I ((i:Int)-1))],[],q⟩:=by
 have l:(0:Int)<=(i:Int):=NW;have D:WI.wrap ((i:Int)-1)=(i:Int)-1:=aq NW NW;have f:au e i [I (cZ a)]=e.set i (I (cZ a)):=by unfold au;rw[List.set_eq_take_append_cons_drop,if_pos NW];simp
 have j:(left.take n).length=n:=by rw[cP];omega
 have h:(n+1)*8<=maxBytes:=by have:=MB;omega
 have g:n<=n+1:=NW;have k:i+1<=n:=NW;have d:(1+n)*8<=maxBytes:=NW;generalize y:left.take n=T at *;simp[q5a,l,w,z,y,j,h,d,g,k,C,B,A,kx,u,v,m,f,c,D,-au]
theorem Ls.get:∀{xs:Oi} {bs:On} {A:Om} {k:Nat},Ls ins v A xs bs->k<xs.length->Lt ins v A (xs.getD k 0) (bs.getD k false)
 |_::_,_::_,_,0,h,_=>h.1
 |_::xs,_::bs,_,k+1,h,a=>Ls.get (xs:=xs) (bs:=bs) h.2 (by simpa using a)
theorem zG {α:Type} {d:α}:∀{l:List α} {k:Nat},k<l.length->l.drop k=l.getD k d::l.drop (k+1)
 |_::_,0,_=>rfl
 |_::l,k+1,h=>zG (l:=l) (by simpa using h)
theorem zH (pre:Ol) (p:(v.length:Int)=ins) {xs ys wide:Oi} {h l:On} {n:Nat} (hn:n<=100) (w:xs.length=n) (r:wide.length=n+1):∀(k:Nat) (A:Om) (left b:Oi) (a:Ol) (o:Bool),k<=n->ck ins A=0->A.length+21*(n+1)*k<=1000000->left.length=n+1->k+b.length=n->
  Ls ins v A xs h->Ls ins v A wide l->Ls ins v A left (ovB n l (h.drop k)).1->Ls ins v A b (ovB n l (h.drop k)).2->
  ∃ C f m J' F,(∀H:BC,ab pg qdq ⟨[(0,Oe (pre.length+2) 0),(1,LI xs),(2,LI ys),(8,I n),(9,.sl o 1 (left.map I)),(10,Oa (wide.map I)),(11,.bs true (pre.length+3+H.post.length) 0 n 1),(12,I ((k:Int)-1))],[],(H.push (.cells ((List.replicate k 0++b).map I)::a)).g pre ins A⟩=
    Og ⟨[(0,Oe (pre.length+2) 0),(1,LI xs),(2,LI ys),(8,I n),(9,.sl F 1 (f.map I)),(11,.bs true (pre.length+3+H.post.length) 0 n 1)],[],(H.push (.cells (m.map I)::J')).g pre ins C⟩)/\
   Stp ins A C (21*(n+1)*k)/\f.length=n+1/\m.length=n/\Ls ins v C f (ovB n l h).1/\Ls ins v C m (ovB n l h).2
 |0,A,left,b,a,o,_,R,_,P,ho,_,_,X,U=>by
  refine⟨A,left,b,a,o,λH=>?_,Stp.refl R,P,NW,X,U⟩;have O:¬(0:Int)<=((0:Nat):Int)-1:=NW;rw[List.replicate_zero,bF];refine (bn (s1:=?J) (aa ?Z)).trans ?Y
  case Z=>simp[q5a,aF O];rfl
  case Y=>simp[keep]
 | k+1,A,left,b,a,o,hk,R,hs,P,ho,M,hw,X,U=>by
  rw[Nat.mul_add,Nat.mul_one] at hs;have L:=M.get (k:=k) NW;have j:Ls ins v A (xs.getD k 0::left.take n) (h.getD k false::(ovB n l (h.drop (k+1))).1.take n):=⟨L,X.take n⟩
  have d:(xs.getD k 0::left.take n).length=n+1:=by simp;omega
  have ad:h.length=n:=by rw[M.len,w]
  have Q:h.drop k=h.getD k false::h.drop (k+1):=zG NW;obtain⟨A1,u,f1,s1,l1⟩:=ur pre p R (xs:=xs.getD k 0::left.take n) (ys:=wide) (by rw[d];omega) (by rw[d];omega) (by rw[d,r]) j hw;rw[d] at s1;have b1:=s1.2.1;obtain⟨A2,sb,f2,s,G⟩:=uq pre p s1.1 (xs:=xs.getD k 0::left.take n) (ys:=wide) (by rw[d];omega) (by rw[d];omega) (by rw[d,r]) (j.mono p s1) (hw.mono p s1);rw[d] at s;have b2:=s.2.1;have S:l.length=n+1:=by rw[hw.len,r]
  have q:sb.length=n+1:=by rw[<-G.len,rn (by rw[j.len,d,S]),j.len,d]
  obtain⟨A3,pk,f3,t,l3⟩:=nb pre p s.1 (c:=cZ u) (bc:= !iO (h.getD k false::(ovB n l (h.drop (k+1))).1.take n) l) (xs:=sb) (ys:=xs.getD k 0::left.take n) (by rw[q];omega) (by rw[q];omega) (by rw[q,d]) ((l1.not s1.1).mono p s) G (j.mono p (s1.trans s));rw[q] at t;have b3:=t.2.1;have z:=(s1.trans s).trans t
  have y:ovB n l (h.drop k)=(d9 (!iO (h.getD k false::(ovB n l (h.drop (k+1))).1.take n) l) (li (h.getD k false::(ovB n l (h.drop (k+1))).1.take n) l) (h.getD k false::(ovB n l (h.drop (k+1))).1.take n),(!iO (h.getD k false::(ovB n l (h.drop (k+1))).1.take n) l)::(ovB n l (h.drop (k+1))).2):=by rw[Q,ovB,ovS]
  have N:pk.length=n+1:=by
   rw[<-l3.len];unfold d9;split
   ·rw[G.len,q]
   ·rw[j.len,d]
  obtain⟨A4,f,m,J',F,g1,g2,g3,g4,g5,g6⟩:=zH pre p (ys:=ys) hn w r k A3 pk (cZ u::b) (a++pkJ pre (cZ u)) false NW t.1 NW N (by simp;omega) (M.mono p z) (hw.mono p z) (by rw[y];exact l3) (by rw[y];exact⟨(l1.not s1.1).mono p (s.trans t),U.mono p z⟩);refine⟨A4,f,m,J',F,λH=>?_,(z.trans g2).mono (by have e:=Nat.mul_add (21*(n+1)) k 1;rw[Nat.mul_one] at e;omega),g3,g4,g5,g6⟩;have hX:(xs.map I)[k]?=some (I (xs.getD k 0)):=by rw[aB,aK,aA NW];rfl
  have eT:(xs.getD k 0::left.take n).map I=I (xs.getD k 0)::(left.map I).take n:=NX;have E:=f1 (H.push (.cells ((List.replicate (k+1) 0++b).map I)::a));have D:=f2 (H.push (.cells ((List.replicate (k+1) 0++b).map I)::a));have B:=f3 (H.push (.cells ((List.replicate (k+1) 0++b).map I)::a)) _ (.inl rfl);rw[na,bH] at B;unfold LI at E D B;rw[eT] at E D B;have T:((List.replicate (k+1) (0:Int)++b).map I).length=n:=by simp;omega
  have x:((List.replicate (k+1) (0:Int)++b).map I).set k (I (cZ u))=(List.replicate k (0:Int)++cZ u::b).map I:=by rw[List.replicate_succ',aT,bI,List.set_append_right _ _ NX,bI];simp
  have hb:=It (pre:=pre) (Y:=ys.map I) (o:=o) (i:=k) NW hn hX (by simpa using P) T E D B Is Ir;rw[x] at hb;rw[show (((k+1:Nat):Int)-1)=(k:Int) by omega];refine ay (aa hb) ?_;exact g1 H
theorem Iu {G h:Ol} {V1 V9 a:Ok} {o9:Bool} {m0 p o m j e:PV} {b n k i l:Nat} {c y g:Int} (t:i<l) (hn:l<=1000) (q:a[i]?=some (I y)) (f:G[pre.length+2]?=some (.cells [Oe (pre.length+1) 0,m0,p,o,m,j,e]))
  (r:ac pg 49 [Oe (pre.length+1) 0,I c,I (cZ y)] G=some (I g,h)) :
  evK pg q5b fiK ⟨[(0,(Oe (pre.length+2) 0)),(1,(NZ V1)),(8,(.int .i64 n)),(9,(.sl o9 1 V9)),(11,(.bs true b 0 k 1)),(14,(.int .i64 c)),(61,(NZ a)),(62,(.int .i64 l)),(63,(.int .i64 i))],[],G⟩=Og ⟨[(0,Oe (pre.length+2) 0),(1,NZ V1),(8,I n),(9,.sl o9 1 V9),(11,.bs true b 0 k 1),(14,I g),(61,NZ a),(62,I l),(63,I ((i+1:Nat):Int))],[],h⟩:=by
 have d:(i:Int)<(l:Int):=NW;have s:=wrS' i NW;simp[q5b,d,q,f,kx,r,s]
theorem zI (e:Ol) (m:(v.length:Int)=ins) {V1 V9:Ok} {o9:Bool} {n k:Nat}:∀(d a:Oi) (cs:On) (A:Om) (c:Int) (j:Bool),ck ins A=0->A.length+d.length<=1000000->a.length+d.length<=1000->Ls ins v A d cs->Lt ins v A c j->
  ∃ p s,(∀(H:BC) (b:Nat),ab pg qdr ⟨[(0,Oe (e.length+2) 0),(1,NZ V1),(8,I n),(9,.sl o9 1 V9),(11,.bs true b 0 k 1),(14,I c),(61,LI (a++d)),(62,I ((a.length+d.length:Nat):Int)),(63,I (a.length:Int))],[],H.g e ins A⟩=
    Og ⟨[(0,Oe (e.length+2) 0),(1,NZ V1),(8,I n),(9,.sl o9 1 V9),(11,.bs true b 0 k 1),(14,I s)],[],H.g e ins p⟩)/\
   Stp ins A p d.length/\Lt ins v p s (lT cs j)
 |[],a,[],A,c,j,h,_,_,_,f=>by
  refine⟨A,c,λH b=>?_,Stp.refl h,f⟩;have o:¬((a.length:Nat):Int)<((a.length+([]:Oi).length:Nat):Int):=NX;refine (bn (s1:=?J) (aa ?Z)).trans ?Y
  case Z=>simp[q5b,o];rfl
  case Y=>simp[keep]
 |y::d,a,b::cs,A,c,j,h,u,w,q,f=>by
  simp only[aV] at u w;obtain⟨M,G,E,s1,t⟩:=jT e m h NW f (q.1.not h);have N:=s1.2.1;obtain⟨L,F,D,C,B⟩:=zI e m d (a++[y]) cs M G _ s1.1 NW (by simp;omega) (q.2.mono m s1) t;refine⟨L,F,λH b=>?_,(s1.trans C).mono (by simp only[aV];omega),B⟩;have z:=Iu (V1:=V1) (V9:=V9) (o9:=o9) (b:=b) (n:=n) (k:=k) (l:=a.length+(y::d).length) (i:=a.length) NX (by simp only[aV];omega) (get_at (rx:=d) (x:=y) rfl) jo (E H);refine ay (aa z) ?_;have r:=D H b
  rw[show (a++[y]).length+d.length=a.length+(y::d).length by simp;omega,show (a++[y]).length=a.length+1 by simp,aT a [y] d] at r;exact r
end
end
end Go.Lw