/-
  The texts that the proof stands on, part 5.
-/
import Derived.Test.YtmodipglnngghacGreatDoorExploreFindsD
set_option linter.unusedVariables false
set_option linter.unusedSimpArgs false
set_option linter.unnecessarySimpa false

set_option maxRecDepth 100000
set_option maxHeartbeats 4000000
namespace Go.Lw
open Go
section
variable {R:Type} {α:Type} {nl z k off i n:Nat} {x y:Option R} {v w:PV} {t b o g z' m arr kn bytes d:Nat} {s:St} {ks:List Nat} {kd:IntKind} {l cs xs:List PV} {e kv r m' u u':PV} {gh gh':List GObj} {lh:List (List PV)} {agg a:Bool} {f:PV->Option R} {lo hi:Option Int} {j:Int}
@[simp] theorem ob_some (a : α) (f : α -> Option R) : ob (some a) f = f a := rfl
@[simp] theorem ob_none (f : α -> Option R) : ob none f = none := rfl
@[simp] theorem gd_true : gd true x = x := rfl
@[simp] theorem gd_false : gd false x = none := rfl
@[simp] theorem gb_true : gb true x = x := rfl
@[simp] theorem la : br t true x y = x := rfl
@[simp] theorem dJ : br t false x y = y := rfl
@[simp] theorem kR_some (e : ag) (f : ag -> St -> Option R) : kR (some (e, s)) f = f e s := rfl
@[simp] theorem nx_normal (f : ag -> St -> Option R) (g : St -> Option R) : nx .normal s f g = g s := rfl
@[simp] theorem nx_ret (f : ag -> St -> Option R) (g : St -> Option R) : nx .ret s f g = f .ret s := rfl
@[simp] theorem nx_exit (f : ag -> St -> Option R) (g : St -> Option R) : nx (.exit i) s f g = f (.exit i) s := rfl
@[simp] theorem bk_normal (f : ag -> St -> Option R) : bk i .normal s f = f .normal s := rfl
@[simp] theorem bk_ret (f : ag -> St -> Option R) : bk i .ret s f = f .ret s := rfl
@[simp] theorem bk_exit (j : Nat) (f : ag -> St -> Option R) : bk i (.exit j) s f = br 0 (Nat.beq j i) (f .normal s) (f (.exit j) s) := rfl
@[simp] theorem po_ret (f : ag -> St -> Option R) : po ks nl .ret s f = f .ret s := rfl
@[simp] theorem po_exit (f : ag -> St -> Option R) : po ks nl (.exit i) s f = f (.exit i) s := rfl
@[simp] theorem po_normal (f : ag -> St -> Option R) : po ks nl .normal s f = fh nl ks s.env λe => f .normal ⟨e, s.lh.take nl, s.gh⟩ := by simp only [po, kY]
@[simp] theorem keepX_nil (e : List (Nat × PV)) (f : List (Nat × PV) -> Option R) : fh nl [] e f = f [] := rfl
@[simp] theorem keepX_cons (l : List Nat) (e : List (Nat × PV)) (f : List (Nat × PV) -> Option R) : fh nl (t :: l) e f = match get e t with
  |some v=>stK nl v (fh nl l e λe'=>f ((t,v)::e'))
  |none=>fh nl l e f:=by simp only[fh,b9];cases get e t<;>rfl
@[simp] theorem get_cons (a : Nat) (l : List (Nat × PV)) : get ((a, v) :: l) t = if a = t then some v else get l t := rfl
@[simp] theorem get_nil : get [] t = none := rfl
@[simp] theorem stK_int (n : Int) : stK nl (.int kd n) x = x := rfl
@[simp] theorem stK_bool (b : Bool) : stK nl (.bool b) x = x := rfl
@[simp] theorem stK_str (b : ByteArray) : stK nl (.str b) x = x := rfl
@[simp] theorem stK_agg : stK nl (.agg l) x = x := rfl
@[simp] theorem stK_tup : stK nl (.tup l) x = x := rfl
@[simp] theorem stK_sl (o : Bool) : stK nl (.sl o z l) x = x := rfl
@[simp] theorem stK_bst : stK nl (.bs true b o n z) x = x := rfl
@[simp] theorem stK_ptrt : stK nl (.ptr true b o) x = x := rfl
@[simp] theorem stK_ptrf : stK nl (.ptr false b o) x = gb (Nat.ble (b + 1) nl) x := rfl
@[simp] theorem stK_nilp : stK nl .nilp x = x := rfl
@[simp] theorem stK_ep : stK nl (.ep e o) x = x := rfl
@[simp] theorem stK_mp : stK nl (.mp b) x = x := rfl
@[simp] theorem stK_nilm : stK nl .nilm x = x := rfl
@[simp] theorem stK_nilf : stK nl .nilf x = x := rfl
@[simp] theorem stK_nils : stK nl .nils x = x := rfl
@[simp] theorem stK_sub : stK nl (.sub b g o n) x = x := rfl
@[simp] theorem stK_stk : stK nl (.stk b g n) x = x := rfl
@[simp] theorem stK_pstk : stK nl (.pstk b g n) x = x := rfl
@[simp] theorem stK_fn (f : Nat) : stK nl (.fn f l) x = x := rfl
@[simp] theorem stK_bfn (f : Nat) : stK nl (.bfn f l) x = x := rfl
@[simp] theorem stK_nilI : stK nl .nilI x = x := rfl
@[simp] theorem stK_someI : stK nl .someI x = x := rfl
@[simp] theorem isC_int (n : Int) : isC (.int kd n) x = x := rfl
@[simp] theorem isC_bool (b : Bool) : isC (.bool b) x = x := rfl
@[simp] theorem isC_str (b : ByteArray) : isC (.str b) x = x := rfl
@[simp] theorem isC_sl (o : Bool) : isC (.sl o z l) x = x := rfl
@[simp] theorem isC_bs (g : Bool) : isC (.bs g b o n z) x = x := rfl
@[simp] theorem isC_ptr (g : Bool) : isC (.ptr g b o) x = x := rfl
@[simp] theorem isC_nilp : isC .nilp x = x := rfl
@[simp] theorem isC_ep : isC (.ep e o) x = x := rfl
@[simp] theorem isC_mp : isC (.mp b) x = x := rfl
@[simp] theorem isC_nilm : isC .nilm x = x := rfl
@[simp] theorem isC_nilf : isC .nilf x = x := rfl
@[simp] theorem isC_nils : isC .nils x = x := rfl
@[simp] theorem isC_sub : isC (.sub b g o n) x = x := rfl
@[simp] theorem isC_stk : isC (.stk b g n) x = x := rfl
@[simp] theorem isC_pstk : isC (.pstk b g n) x = x := rfl
@[simp] theorem isC_fn (f : Nat) : isC (.fn f l) x = x := rfl
@[simp] theorem isC_bfn (f : Nat) : isC (.bfn f l) x = x := rfl
@[simp] theorem isC_nilI : isC .nilI x = x := rfl
@[simp] theorem isC_someI : isC .someI x = x := rfl
@[simp] theorem onK_int (n : Int) : onK (.int kd n) x = x := rfl
@[simp] theorem onK_bool (b : Bool) : onK (.bool b) x = x := rfl
@[simp] theorem onK_str (b : ByteArray) : onK (.str b) x = x := rfl
@[simp] theorem onK_sl (o : Bool) : onK (.sl o z l) x = x := rfl
@[simp] theorem onK_bs : onK (.bs true b o n z) x = x := rfl
@[simp] theorem onK_ptr : onK (.ptr true b o) x = x := rfl
@[simp] theorem onK_nilp : onK .nilp x = x := rfl
@[simp] theorem onK_ep : onK (.ep e o) x = x := rfl
@[simp] theorem onK_mp : onK (.mp b) x = x := rfl
@[simp] theorem onK_nilm : onK .nilm x = x := rfl
@[simp] theorem onK_nilf : onK .nilf x = x := rfl
@[simp] theorem onK_nils : onK .nils x = x := rfl
@[simp] theorem onK_sub : onK (.sub b g o n) x = x := rfl
@[simp] theorem onK_stk : onK (.stk b g n) x = x := rfl
@[simp] theorem onK_fn (f : Nat) : onK (.fn f l) x = x := rfl
@[simp] theorem onK_bfn (f : Nat) : onK (.bfn f l) x = x := rfl
@[simp] theorem onK_nilI : onK .nilI x = x := rfl
@[simp] theorem onK_someI : onK .someI x = x := rfl
@[simp] theorem arL_nil : arL [] x = x := rfl
@[simp] theorem yU (c : PV) (l : List PV) : arL (c :: l) x = onK c (arL l x) := rfl
@[simp] theorem arK_agg : arK (.agg l) x = arL l x := rfl
@[simp] theorem arK_int (n : Int) : arK (.int kd n) x = x := rfl
@[simp] theorem arK_bool (b : Bool) : arK (.bool b) x = x := rfl
@[simp] theorem arK_str (b : ByteArray) : arK (.str b) x = x := rfl
@[simp] theorem arK_sl (o : Bool) : arK (.sl o z l) x = x := rfl
@[simp] theorem arK_bs : arK (.bs true b o n z) x = x := rfl
@[simp] theorem arK_ptr : arK (.ptr true b o) x = x := rfl
@[simp] theorem arK_nilp : arK .nilp x = x := rfl
@[simp] theorem arK_ep : arK (.ep e o) x = x := rfl
@[simp] theorem arK_mp : arK (.mp b) x = x := rfl
@[simp] theorem arK_nilm : arK .nilm x = x := rfl
@[simp] theorem arK_nilf : arK .nilf x = x := rfl
@[simp] theorem arK_nils : arK .nils x = x := rfl
@[simp] theorem arK_sub : arK (.sub b g o n) x = x := rfl
@[simp] theorem arK_stk : arK (.stk b g n) x = x := rfl
@[simp] theorem arK_fn (f : Nat) : arK (.fn f l) x = x := rfl
@[simp] theorem arK_bfn (f : Nat) : arK (.bfn f l) x = x := rfl
@[simp] theorem arK_nilI : arK .nilI x = x := rfl
@[simp] theorem arK_someI : arK .someI x = x := rfl
@[simp] theorem allK_nil : dG [] x = x := rfl
@[simp] theorem yV (c : PV) (l : List PV) : dG (c :: l) x = arK c (dG l x) := rfl
@[simp] theorem lnK_agg : lnK z (.agg l) x = gb (fV l z) x := rfl
@[simp] theorem lnK_int (n : Int) : lnK z (.int kd n) x = gb (Nat.beq 1 z) x := rfl
@[simp] theorem lnK_bool (b : Bool) : lnK z (.bool b) x = gb (Nat.beq 1 z) x := rfl
@[simp] theorem lnK_str (b : ByteArray) : lnK z (.str b) x = gb (Nat.beq 1 z) x := rfl
@[simp] theorem lnK_sl (o : Bool) : lnK z (.sl o z' l) x = gb (Nat.beq 1 z) x := rfl
@[simp] theorem lnK_bs (g : Bool) : lnK z (.bs g b o n z') x = gb (Nat.beq 1 z) x := rfl
@[simp] theorem unI_int (n : Int) (f : Int -> Option R) : unI kd (.int kd n) f = f n := by cases kd<;>rfl
@[simp] theorem unB_bool (b : Bool) (f : Bool -> Option R) : unB (.bool b) f = f b := rfl
@[simp] theorem unG_ptr (f : Nat -> Nat -> Option R) : unG (.ptr true b o) f = f b o := rfl
@[simp] theorem unA_agg (f : Fn n (Option R)) : unA n (.agg cs) f = unN n cs f := rfl
@[simp] theorem unT_tup (f : Fn n (Option R)) : unT n (.tup cs) f = unN n cs f := rfl
@[simp] theorem unN_zero (f : Fn 0 (Option R)) : unN 0 [] f = f := rfl
@[simp] theorem unN_succ (c : PV) (f : Fn (n + 1) (Option R)) : unN (n + 1) (c :: l) f = unN n l (f c) := rfl
@[simp] theorem degr_int (n : Int) : degr (.int kd n) = .int kd n := rfl
@[simp] theorem degr_bool (b : Bool) : degr (.bool b) = .bool b := rfl
@[simp] theorem degr_str (b : ByteArray) : degr (.str b) = .str b := rfl
@[simp] theorem degr_sl (o : Bool) : degr (.sl o z l) = .sl false z l := rfl
@[simp] theorem degr_agg : degr (.agg l) = .agg (l.map aa) := rfl
@[simp] theorem degr_tup : degr (.tup l) = .tup (l.map aa) := rfl
@[simp] theorem degr_bs (g : Bool) : degr (.bs g b o n z) = .bs g b o n z := rfl
@[simp] theorem degr_ptr (g : Bool) : degr (.ptr g b o) = .ptr g b o := rfl
@[simp] theorem degr_nilp : degr .nilp = .nilp := rfl
@[simp] theorem degr_ep : degr (.ep e o) = .ep e o := rfl
@[simp] theorem degr_mp : degr (.mp b) = .mp b := rfl
@[simp] theorem degr_nilm : degr .nilm = .nilm := rfl
@[simp] theorem degr_nilf : degr .nilf = .nilf := rfl
@[simp] theorem degr_nils : degr .nils = .nils := rfl
@[simp] theorem degr_sub : degr (.sub b g o n) = .sub b g o n := rfl
@[simp] theorem degr_stk : degr (.stk b g n) = .stk b g n := rfl
@[simp] theorem degr_pstk : degr (.pstk b g n) = .pstk b g n := rfl
@[simp] theorem degr_fn (f : Nat) : degr (.fn f l) = .fn f l := rfl
@[simp] theorem degr_bfn (f : Nat) : degr (.bfn f l) = .bfn f l := rfl
@[simp] theorem degr_nilI : degr .nilI = .nilI := rfl
@[simp] theorem degr_someI : degr .someI = .someI := rfl
@[simp] theorem degr1_int (n : Int) : aa (.int kd n) = .int kd n := rfl
@[simp] theorem degr1_bool (b : Bool) : aa (.bool b) = .bool b := rfl
@[simp] theorem degr1_str (b : ByteArray) : aa (.str b) = .str b := rfl
@[simp] theorem degr1_sl (o : Bool) : aa (.sl o z l) = .sl false z l := rfl
@[simp] theorem degr1_agg : aa (.agg l) = .agg l := rfl
@[simp] theorem degr1_bs (g : Bool) : aa (.bs g b o n z) = .bs g b o n z := rfl
@[simp] theorem degr1_ptr (g : Bool) : aa (.ptr g b o) = .ptr g b o := rfl
@[simp] theorem degr1_nilp : aa .nilp = .nilp := rfl
@[simp] theorem degr1_ep : aa (.ep e o) = .ep e o := rfl
@[simp] theorem degr1_mp : aa (.mp b) = .mp b := rfl
@[simp] theorem degr1_nilm : aa .nilm = .nilm := rfl
@[simp] theorem degr1_nilf : aa .nilf = .nilf := rfl
@[simp] theorem degr1_nils : aa .nils = .nils := rfl
@[simp] theorem degr1_sub : aa (.sub b g o n) = .sub b g o n := rfl
@[simp] theorem degr1_stk : aa (.stk b g n) = .stk b g n := rfl
@[simp] theorem degr1_fn (f : Nat) : aa (.fn f l) = .fn f l := rfl
@[simp] theorem degr1_bfn (f : Nat) : aa (.bfn f l) = .bfn f l := rfl
@[simp] theorem degr1_nilI : aa .nilI = .nilI := rfl
@[simp] theorem degr1_someI : aa .someI = .someI := rfl
@[simp] theorem cells_agg : PV.cells (.agg l) = l := rfl
@[simp] theorem cells_int (n : Int) : PV.cells (.int kd n) = [.int kd n] := rfl
@[simp] theorem cells_bool (b : Bool) : PV.cells (.bool b) = [.bool b] := rfl
@[simp] theorem cells_str (b : ByteArray) : PV.cells (.str b) = [.str b] := rfl
@[simp] theorem cells_sl (o : Bool) : PV.cells (.sl o z l) = [.sl o z l] := rfl
@[simp] theorem cells_bs (g : Bool) : PV.cells (.bs g b o n z) = [.bs g b o n z] := rfl
@[simp] theorem cells_sub : PV.cells (.sub b g o n) = [.sub b g o n] := rfl
@[simp] theorem cells_stk : PV.cells (.stk b g n) = [.stk b g n] := rfl
@[simp] theorem ghCells_some : ao gh b = (match gh[b]? with | some (.cells cs) => some cs | _ => none) := rfl
@[simp] theorem ghMap_some : gu gh b = (match gh[b]? with | some (.map cs) => some cs | _ => none) := rfl
@[simp] theorem grab_false : aq false k off cs = cs[off]? := rfl
@[simp] theorem grab_true : aq true k off cs = if off + k <= cs.length then some (.agg ((cs.drop off).take k)) else none := rfl
@[simp] theorem ldX_ep : ldX lh gh agg k (.ep e off) f = ob (aq agg k off e.cells) f := rfl
@[simp] theorem ldX_ptrt : ldX lh gh agg k (.ptr true b off) f = ob (ao gh b) λcs => ob (aq agg k off cs) λv => f (degr v) := rfl
@[simp] theorem ldX_ptrf : ldX lh gh agg k (.ptr false b off) f = ob lh[b]? λcs => ob (aq agg k off cs) λv => f (degr v) := by
 simp only[ldX,cn];cases lh[b]? with
 |none=>rfl
 |some cs=>
  show (match aq agg k off cs with|some v=>f (degr v)|none=>none)=ob (aq agg k off cs) λv=>f (degr v)
  cases aq agg k off cs<;>rfl
@[simp] theorem stOk_eq (old : List PV) : db k off cs old = decide (cs.length = k /\ off + k <= old.length) := by rw[Bool.eq_iff_iff,stOk_iff];simp
@[simp] theorem lenB_eq' : fV l n = decide (l.length = n) := lenB_eq l n
@[simp] theorem faX_ep : faX (.ep e o) off f = f (.ep e (o + off)) := rfl
@[simp] theorem faX_ptr (g : Bool) : faX (.ptr g b o) off f = f (.ptr g b (o + off)) := rfl
@[simp] theorem idX_sl (o : Bool) (i : Int) : idX z none (.sl o z' xs) i f = gd (decide (0 <= i /\ z = z')) (ob xs[i.toNat]? λe => f (.ep e 0)) := rfl
@[simp] theorem idX_bs (g : Bool) (i : Int) : idX z none (.bs g b off n z') i f = gd (decide (0 <= i /\ i < n /\ z = z')) (f (.ptr g b (off + i.toNat * z))) := rfl
@[simp] theorem idX_stk (i : Int) : idX z none (.stk b g n) i f = gd (decide (0 <= i /\ i < n /\ z = 1)) (f (.pstk b g i.toNat)) := rfl
@[simp] theorem idX_arr (g : Bool) (i : Int) : idX z (some m) (.ptr g b o) i f = gd (decide (0 <= i /\ i < m)) (f (.ptr g b (o + i.toNat * z))) := rfl
@[simp] theorem idX_arrep (i : Int) : idX z (some m) (.ep e o) i f = gd (decide (0 <= i /\ i < m)) (f (.ep e (o + i.toNat * z))) := rfl
@[simp] theorem ixX_agg (i : Int) : ixX (.agg cs) z arr agg i f = gd (decide (0 <= i /\ i < arr)) (ob (aq agg z (i.toNat * z) cs) f) := rfl
@[simp] theorem iz (f : Option PV -> Option R) : lkX gh kn (.mp b) kv f = ob (gu gh b) λes => gd (dE kn kv) (ob (eU kn es kv) f) := rfl
@[simp] theorem rA (f : List GObj -> Option R) : muX gh kn (.mp b) kv v f = ob (gu gh b) λes => gd (ah kv && (ah v && dE kn kv)) (ob (eb kn es kv v) λes' => f (gh.set b (.map es'))) := rfl
@[simp] theorem lenS_sl (o : Bool) (f : Nat -> Option R) : bh (.sl o z xs) f = f xs.length := rfl
@[simp] theorem lenS_bs (g : Bool) (f : Nat -> Option R) : bh (.bs g b o n z) f = f n := rfl
@[simp] theorem lenS_stk (f : Nat -> Option R) : bh (.stk b g n) f = f n := rfl
@[simp] theorem lenM_mp (f : Nat -> Option R) : jj gh (.mp b) f = ob (gu gh b) λes => f es.length := rfl
@[simp] theorem apX_sl (o p : Bool) (z1 z2 : Nat) (ys : List PV) (f : List PV -> Option R) : apX z bytes (.sl o z1 xs) (.sl p z2 ys) f = gd (decide (o = true /\ z1 = z /\ z2 = z /\ (xs.length + ys.length) * bytes <= maxBytes)) (f (xs ++ ys)) := rfl
@[simp] theorem fnY_fn (f : Nat) (g : Nat -> List PV -> (List PV -> List PV) -> Option R) : fnY (.fn f cs) g = g f cs (λvs => vs ++ cs) := rfl
@[simp] theorem fnY_bfn (f : Nat) (g : Nat -> List PV -> (List PV -> List PV) -> Option R) : fnY (.bfn f cs) g = g f cs (λvs => cs ++ vs) := rfl
@[simp] theorem callR_t (f : PV -> List GObj -> Option R) : callR gh true (some (r, gh)) f = f r gh := by simp [callR]
@[simp] theorem callR_f (f : PV -> List GObj -> Option R) : callR gh false (some (r, gh')) f = f r gh' := rfl
@[simp] theorem isFlat_int (n : Int) : dU (.int kd n) = true := rfl
@[simp] theorem isFlat_bool (b : Bool) : dU (.bool b) = true := rfl
@[simp] theorem bd_none (f : Nat -> Option R) : bd d none f = f d := rfl
@[simp] theorem bd_some (i : Int) (f : Nat -> Option R) : bd d (some i) f = gd (decide (0 <= i)) (f i.toNat) := rfl
@[simp] theorem slX_sl (o : Bool) : slX z (.sl o z' xs) lo hi f = bd xs.length hi λh => bd 0 lo λl => gd (decide (l <= h /\ h <= xs.length /\ z = z')) (f (.sl false z ((xs.take h).drop l))) := rfl
@[simp] theorem slX_bs (g : Bool) : slX z (.bs g b off n z') lo hi f = bd n hi λh => bd 0 lo λl => gd (decide (l <= h /\ h <= n /\ z = z')) (f (.bs g b (off + l * z) (h - l) z)) := rfl
@[simp] theorem slX_stk : slX z (.stk b g n) none hi f = bd n hi λh => gd (decide (h <= n /\ z = 1)) (f (.stk b g h)) := rfl
@[simp] theorem slX_stk_some (lo : Int) : slX z (.stk b g n) (some lo) hi f = bd n hi λh => bd 0 (some lo) λl => gd (decide (l <= h /\ h <= n /\ z = 1)) (f (.sub b g l (h - l))) := rfl
@[simp] theorem slX_sub : slX z (.sub b g o n) lo hi f = bd n hi λh => bd 0 lo λl => gd (decide (l <= h /\ h <= n /\ z = 1)) (f (.sub b g (o + l) (h - l))) := rfl
@[simp] theorem idX_sub (i : Int) : idX z none (.sub b g o n) i f = gd (decide (0 <= i /\ i < n /\ z = 1)) (f (.pstk b g (o + i.toNat))) := rfl
@[simp] theorem lenS_sub (f : Nat -> Option R) : bh (.sub b g o n) f = f n := rfl
@[simp] theorem lenS_nils (f : Nat -> Option R) : bh .nils f = f 0 := rfl
@[simp] theorem kbX_sl (o : Bool) : kbX gh gh' (.sl o z l) x = x := rfl
theorem rB {gh gh':List GObj} {b o:Nat} {x:Option R} (h:b<gh.length) (h2:gh'[b]?=gh[b]?):kbX gh gh' (.ptr true b o) x=x:=by simp only[kbX];exact if_pos ⟨h,h2⟩
@[congr] theorem kbX_congr (g1 g1' : List GObj) (h0 : gh = gh') (h1 : g1 = g1') (h : v = w) : kbX gh g1 v x = kbX gh' g1' w x := by rw [h0, h1, h]
@[congr] theorem ob_congr (a b : Option α) (f : α -> Option R) (h : a = b) : ob a f = ob b f := by rw [h]
@[congr] theorem gd_congr (b : Bool) (h : a = b) : gd a x = gd b x := by rw [h]
@[congr] theorem gb_congr (b : Bool) (h : a = b) : gb a x = gb b x := by rw [h]
@[congr] theorem br_congr (b : Bool) (h : a = b) : br t a x y = br t b x y := by rw [h]
@[congr] theorem kR_congr (a b : Option (ag × St)) (f : ag -> St -> Option R) (h : a = b) : kR a f = kR b f := by rw [h]
@[congr] theorem stK_congr (h : v = w) : stK nl v x = stK nl w x := by rw [h]
@[congr] theorem isC_congr (h : v = w) : isC v x = isC w x := by rw [h]
@[congr] theorem onK_congr (h : v = w) : onK v x = onK w x := by rw [h]
@[congr] theorem arK_congr (h : v = w) : arK v x = arK w x := by rw [h]
@[congr] theorem lnK_congr (h : v = w) : lnK z v x = lnK z w x := by rw [h]
@[congr] theorem arL_congr (m : List PV) (h : l = m) : arL l x = arL m x := by rw [h]
@[congr] theorem allK_congr (m : List PV) (h : l = m) : dG l x = dG m x := by rw [h]
@[congr] theorem unI_congr (f : Int -> Option R) (h : v = w) : unI kd v f = unI kd w f := by rw [h]
@[congr] theorem unB_congr (f : Bool -> Option R) (h : v = w) : unB v f = unB w f := by rw [h]
@[congr] theorem unG_congr (f : Nat -> Nat -> Option R) (h : v = w) : unG v f = unG w f := by rw [h]
@[congr] theorem unA_congr (f : Fn n (Option R)) (h : v = w) : unA n v f = unA n w f := by rw [h]
@[congr] theorem unT_congr (f : Fn n (Option R)) (h : v = w) : unT n v f = unT n w f := by rw [h]
@[congr] theorem ldX_congr (lh' : List (List PV)) (h1 : lh = lh') (h2 : gh = gh') (h : v = w) : ldX lh gh agg k v f = ldX lh' gh' agg k w f := by rw [h1, h2, h]
@[congr] theorem faX_congr (h : v = w) : faX v off f = faX w off f := by rw [h]
@[congr] theorem idX_congr (arr : Option Nat) (i : Int) (h : v = w) (h2 : i = j) : idX z arr v i f = idX z arr w j f := by rw [h, h2]
@[congr] theorem ixX_congr (i : Int) (h : v = w) (h2 : i = j) : ixX v z arr agg i f = ixX w z arr agg j f := by rw [h, h2]
@[congr] theorem lkX_congr (m : PV) (f : Option PV -> Option R) (h1 : gh = gh') (h2 : m = m') (h : v = w) : lkX gh kn m v f = lkX gh' kn m' w f := by rw [h1, h2, h]
@[congr] theorem muX_congr (m : PV) (f : List GObj -> Option R) (h1 : gh = gh') (h2 : m = m') (h : v = w) (h3 : u = u') : muX gh kn m v u f = muX gh' kn m' w u' f := by rw [h1, h2, h, h3]
@[congr] theorem lenS_congr (f : Nat -> Option R) (h : v = w) : bh v f = bh w f := by rw [h]
@[congr] theorem lenM_congr (f : Nat -> Option R) (h1 : gh = gh') (h : v = w) : jj gh v f = jj gh' w f := by rw [h1, h]
@[congr] theorem apX_congr (f : List PV -> Option R) (h1 : u = u') (h : v = w) : apX z bytes u v f = apX z bytes u' w f := by rw [h1, h]
@[congr] theorem fnY_congr (f : Nat -> List PV -> (List PV -> List PV) -> Option R) (h : v = w) : fnY v f = fnY w f := by rw [h]
@[congr] theorem callR_congr (q : Bool) (a b : Option (PV × List GObj)) (f : PV -> List GObj -> Option R) (h1 : gh = gh') (h : a = b) : callR gh q a f = callR gh' q b f := by rw [h1, h]
@[congr] theorem slX_congr (lo' hi' : Option Int) (h : v = w) (h1 : lo = lo') (h2 : hi = hi') : slX z v lo hi f = slX z w lo' hi' f := by rw [h, h1, h2]
@[congr] theorem bd_congr (d' : Nat) (a b : Option Int) (f : Nat -> Option R) (h1 : d = d') (h : a = b) : bd d a f = bd d' b f := by rw [h1, h]
theorem yW (h:v.one=true):onK v x=x:=by
 cases v with
 |ptr g b o=>cases g<;>simp[PV.one] at h;rfl
 |bs g b o n z=>cases g<;>simp[PV.one] at h;rfl
 |und=>simp[PV.one] at h
 |agg=>simp[PV.one] at h
 |tup=>simp[PV.one] at h
 |arr=>simp[PV.one] at h
 |junk=>simp[PV.one] at h
 |_=>rfl
theorem yX {l:List PV} (h:l.all PV.one=true):arL l x=x:=by
 induction l with
 |nil=>rfl
 |cons c l ih=>
  simp only[List.all_cons,aX] at h;rw[yU,yW h.1,ih h.2]
theorem yY (h:ah v=true):arK v x=x:=by
 cases v with
 |agg l=>exact yX h
 |ptr g b o=>cases g<;>simp[ah,PV.cells,PV.one] at h;rfl
 |bs g b o n z=>cases g<;>simp[ah,PV.cells,PV.one] at h;rfl
 |und=>simp[ah,PV.cells,PV.one] at h
 |tup=>simp[ah,PV.cells,PV.one] at h
 |arr=>simp[ah,PV.cells,PV.one] at h
 |junk=>simp[ah,PV.cells,PV.one] at h
 |_=>rfl
theorem jQ {l:List PV} (h:l.all ah=true):dG l x=x:=by
 induction l with
 |nil=>rfl
 |cons c l ih=>
  simp only[List.all_cons,aX] at h;rw[yV,yY h.1,ih h.2]
theorem gz {pg:Prg} {f:Nat} {fn:IFunc} {vs:List PV} {gh:List GObj} {e:ag} {s:St} (h:pg f=some (.code fn)) (hl:vs.length=fn.np) (hr:ac pg fn.body ⟨fu 0 vs,[],gh⟩=some (e,s)) :
  af pg f vs gh=au fn gh (e,s):=by
 rw[oI];unfold cV;rw[h];simp[hl,hr]
theorem aw {pg:Prg} {f:Nat} {fn:IFunc} {vs:List PV} {gh gh':List GObj} {s:St} {v:PV} (h:pg f=some (.code fn)) (hl:vs.length=fn.np) (hr:ac pg fn.body ⟨fu 0 vs,[],gh⟩=some (.ret,s))
  (hf:au fn gh (.ret,s)=some (v,gh')):af pg f vs gh=some (v,gh'):=by
 rw[gz h hl hr];exact hf
theorem bq {pg:Prg} {b:ICode} {id:Nat} {ks:List Nat} {s s1:St} {r:Option (ag×St)} (h:ac pg b s=some (.normal,s1)) (h2:ac pg (.post (.block id (.loop b)) ks nl) s1=r):ac pg (.post (.block id (.loop b)) ks nl) s=r:=by rw[<-h2,ij,jx,lT,h,ij,jx]
theorem cX {pg:Prg} {b:ICode} {id:Nat} {ks:List Nat} {s s1:St} (h:ac pg b s=some (.exit id,s1)):ac pg (.post (.block id (.loop b)) ks nl) s=some (.normal,⟨keep nl ks s1.env,s1.lh.take nl,s1.gh⟩):=by rw[ij,jx,lT,h];simp
theorem eF {pg:Prg} {b:ICode} {id:Nat} {ks:List Nat} {s s1:St} (h:ac pg b s=some (.ret,s1)):ac pg (.post (.block id (.loop b)) ks nl) s=some (.ret,s1):=by rw[ij,jx,lT,h]
end
end Go.Lw