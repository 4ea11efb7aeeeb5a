/-
  The texts that the proof stands on, part 5.
-/
import Derived.Test.YtmodipglnngghacDoorTextBackD
set_option linter.unusedVariables false
set_option linter.unusedSimpArgs false
set_option linter.unnecessarySimpa false

/-! How what is read off is reckoned (rules for simp). -/
section
namespace Go.Lw
open Go
section
variable {R:Type} {α:Type} {nl z k off i n:Nat} {x y:Option R} {v w:PV}
@[simp] theorem ob_some (a : α) (f : α → Option R) : ob (some a) f = f a := rfl
@[simp] theorem ob_none (f : α → Option R) : ob none f = none := rfl
@[simp] theorem gd_true (x : Option R) : gd true x = x := rfl
@[simp] theorem gd_false (x : Option R) : gd false x = none := rfl
@[simp] theorem gb_true (x : Option R) : gb true x = x := rfl
@[simp] theorem jay (t : Nat) (x y : Option R) : br t true x y = x := rfl
@[simp] theorem jaw (t : Nat) (x y : Option R) : br t false x y = y := rfl
@[simp] theorem kR_some (e : IExit) (s : St) (f : IExit → St → Option R) : kR (some (e, s)) f = f e s := rfl
@[simp] theorem nx_normal (s : St) (f : IExit → St → Option R) (g : St → Option R) : nx .normal s f g = g s := rfl
@[simp] theorem nx_ret (s : St) (f : IExit → St → Option R) (g : St → Option R) : nx .ret s f g = f .ret s := rfl
@[simp] theorem nx_exit (i : Nat) (s : St) (f : IExit → St → Option R) (g : St → Option R) : nx (.exit i) s f g = f (.exit i) s := rfl
@[simp] theorem bk_normal (i : Nat) (s : St) (f : IExit → St → Option R) : bk i .normal s f = f .normal s := rfl
@[simp] theorem bk_ret (i : Nat) (s : St) (f : IExit → St → Option R) : bk i .ret s f = f .ret s := rfl
@[simp] theorem bk_exit (i j : Nat) (s : St) (f : IExit → St → Option R) : bk i (.exit j) s f = br 0 (Nat.beq j i) (f .normal s) (f (.exit j) s) := rfl
@[simp] theorem po_ret (ks : List Nat) (s : St) (f : IExit → St → Option R) : po ks nl .ret s f = f .ret s := rfl
@[simp] theorem po_exit (ks : List Nat) (s : St) (f : IExit → St → Option R) : po ks nl (.exit i) s f = f (.exit i) s := rfl
@[simp] theorem po_normal (ks : List Nat) (s : St) (f : IExit → St → Option R) : po ks nl .normal s f = keepX nl ks s.env fun e => f .normal ⟨e, s.lh.take nl, s.gh⟩ := by simp only [po, je7]
@[simp] theorem keepX_nil (e : List (Nat × PV)) (f : List (Nat × PV) → Option R) : keepX nl [] e f = f [] := rfl
@[simp] theorem keepX_cons (t : Nat) (l : List Nat) (e : List (Nat × PV)) (f : List (Nat × PV) → Option R) : keepX nl (t :: l) e f = match get e t with
  |some v=>stK nl v (keepX nl l e fun e'=>f ((t,v)::e'))
  |none=>keepX nl l e f:=by simp only[keepX,jaj];cases get e t<;>rfl
@[simp] theorem get_cons (a : Nat) (v : PV) (l : List (Nat × PV)) (t : Nat) : get ((a, v) :: l) t = if a = t then some v else get l t := rfl
@[simp] theorem get_nil (t : Nat) : get [] t = none := rfl
@[simp] theorem stK_int (kd : IntKind) (n : Int) : stK nl (.int kd n) x = x := rfl
@[simp] theorem stK_bool (b : Bool) : stK nl (.bool b) x = x := rfl
@[simp] theorem stK_str (b : ByteArray) : stK nl (.str b) x = x := rfl
@[simp] theorem stK_agg (l : List PV) : stK nl (.agg l) x = x := rfl
@[simp] theorem stK_tup (l : List PV) : stK nl (.tup l) x = x := rfl
@[simp] theorem stK_sl (o : Bool) (l : List PV) : stK nl (.sl o z l) x = x := rfl
@[simp] theorem stK_bst (b o n : Nat) : stK nl (.bs true b o n z) x = x := rfl
@[simp] theorem stK_ptrt (b o : Nat) : stK nl (.ptr true b o) x = x := rfl
@[simp] theorem stK_ptrf (b o : Nat) : stK nl (.ptr false b o) x = gb (Nat.ble (b + 1) nl) x := rfl
@[simp] theorem stK_nilp : stK nl .nilp x = x := rfl
@[simp] theorem stK_ep (e : PV) (o : Nat) : stK nl (.ep e o) x = x := rfl
@[simp] theorem stK_mp (b : Nat) : stK nl (.mp b) x = x := rfl
@[simp] theorem stK_nilm : stK nl .nilm x = x := rfl
@[simp] theorem stK_nilf : stK nl .nilf x = x := rfl
@[simp] theorem stK_nils : stK nl .nils x = x := rfl
@[simp] theorem stK_sub (b g o n : Nat) : stK nl (.sub b g o n) x = x := rfl
@[simp] theorem stK_stk (b g n : Nat) : stK nl (.stk b g n) x = x := rfl
@[simp] theorem stK_pstk (b g n : Nat) : stK nl (.pstk b g n) x = x := rfl
@[simp] theorem stK_fn (f : Nat) (l : List PV) : stK nl (.fn f l) x = x := rfl
@[simp] theorem stK_nilI : stK nl .nilI x = x := rfl
@[simp] theorem stK_someI : stK nl .someI x = x := rfl
@[simp] theorem isC_int (kd : IntKind) (n : Int) : isC (.int kd n) x = x := rfl
@[simp] theorem isC_bool (b : Bool) : isC (.bool b) x = x := rfl
@[simp] theorem isC_str (b : ByteArray) : isC (.str b) x = x := rfl
@[simp] theorem isC_sl (o : Bool) (l : List PV) : isC (.sl o z l) x = x := rfl
@[simp] theorem isC_bs (g : Bool) (b o n : Nat) : isC (.bs g b o n z) x = x := rfl
@[simp] theorem isC_ptr (g : Bool) (b o : Nat) : isC (.ptr g b o) x = x := rfl
@[simp] theorem isC_nilp : isC .nilp x = x := rfl
@[simp] theorem isC_ep (e : PV) (o : Nat) : isC (.ep e o) x = x := rfl
@[simp] theorem isC_mp (b : Nat) : isC (.mp b) x = x := rfl
@[simp] theorem isC_nilm : isC .nilm x = x := rfl
@[simp] theorem isC_nilf : isC .nilf x = x := rfl
@[simp] theorem isC_nils : isC .nils x = x := rfl
@[simp] theorem isC_sub (b g o n : Nat) : isC (.sub b g o n) x = x := rfl
@[simp] theorem isC_stk (b g n : Nat) : isC (.stk b g n) x = x := rfl
@[simp] theorem isC_pstk (b g n : Nat) : isC (.pstk b g n) x = x := rfl
@[simp] theorem isC_fn (f : Nat) (l : List PV) : isC (.fn f l) x = x := rfl
@[simp] theorem isC_nilI : isC .nilI x = x := rfl
@[simp] theorem isC_someI : isC .someI x = x := rfl
@[simp] theorem onK_int (kd : IntKind) (n : Int) : onK (.int kd n) x = x := rfl
@[simp] theorem onK_bool (b : Bool) : onK (.bool b) x = x := rfl
@[simp] theorem onK_str (b : ByteArray) : onK (.str b) x = x := rfl
@[simp] theorem onK_sl (o : Bool) (l : List PV) : onK (.sl o z l) x = x := rfl
@[simp] theorem onK_bs (b o n : Nat) : onK (.bs true b o n z) x = x := rfl
@[simp] theorem onK_ptr (b o : Nat) : onK (.ptr true b o) x = x := rfl
@[simp] theorem onK_nilp : onK .nilp x = x := rfl
@[simp] theorem onK_ep (e : PV) (o : Nat) : onK (.ep e o) x = x := rfl
@[simp] theorem onK_mp (b : Nat) : onK (.mp b) x = x := rfl
@[simp] theorem onK_nilm : onK .nilm x = x := rfl
@[simp] theorem onK_nilf : onK .nilf x = x := rfl
@[simp] theorem onK_nils : onK .nils x = x := rfl
@[simp] theorem onK_sub (b g o n : Nat) : onK (.sub b g o n) x = x := rfl
@[simp] theorem onK_stk (b g n : Nat) : onK (.stk b g n) x = x := rfl
@[simp] theorem onK_fn (f : Nat) (l : List PV) : onK (.fn f l) x = x := rfl
@[simp] theorem onK_nilI : onK .nilI x = x := rfl
@[simp] theorem onK_someI : onK .someI x = x := rfl
@[simp] theorem arL_nil : arL [] x = x := rfl
@[simp] theorem jml (c : PV) (l : List PV) : arL (c :: l) x = onK c (arL l x) := rfl
@[simp] theorem arK_agg (l : List PV) : arK (.agg l) x = arL l x := rfl
@[simp] theorem arK_int (kd : IntKind) (n : Int) : arK (.int kd n) x = x := rfl
@[simp] theorem arK_bool (b : Bool) : arK (.bool b) x = x := rfl
@[simp] theorem arK_str (b : ByteArray) : arK (.str b) x = x := rfl
@[simp] theorem arK_sl (o : Bool) (l : List PV) : arK (.sl o z l) x = x := rfl
@[simp] theorem arK_bs (b o n : Nat) : arK (.bs true b o n z) x = x := rfl
@[simp] theorem arK_ptr (b o : Nat) : arK (.ptr true b o) x = x := rfl
@[simp] theorem arK_nilp : arK .nilp x = x := rfl
@[simp] theorem arK_ep (e : PV) (o : Nat) : arK (.ep e o) x = x := rfl
@[simp] theorem arK_mp (b : Nat) : arK (.mp b) x = x := rfl
@[simp] theorem arK_nilm : arK .nilm x = x := rfl
@[simp] theorem arK_nilf : arK .nilf x = x := rfl
@[simp] theorem arK_nils : arK .nils x = x := rfl
@[simp] theorem arK_sub (b g o n : Nat) : arK (.sub b g o n) x = x := rfl
@[simp] theorem arK_stk (b g n : Nat) : arK (.stk b g n) x = x := rfl
@[simp] theorem arK_fn (f : Nat) (l : List PV) : arK (.fn f l) x = x := rfl
@[simp] theorem arK_nilI : arK .nilI x = x := rfl
@[simp] theorem arK_someI : arK .someI x = x := rfl
@[simp] theorem allK_nil : allK [] x = x := rfl
@[simp] theorem jmm (c : PV) (l : List PV) : allK (c :: l) x = arK c (allK l x) := rfl
@[simp] theorem lnK_agg (l : List PV) : lnK z (.agg l) x = gb (lenB l z) x := rfl
@[simp] theorem lnK_int (kd : IntKind) (n : Int) : lnK z (.int kd n) x = gb (Nat.beq 1 z) x := rfl
@[simp] theorem lnK_bool (b : Bool) : lnK z (.bool b) x = gb (Nat.beq 1 z) x := rfl
@[simp] theorem lnK_str (b : ByteArray) : lnK z (.str b) x = gb (Nat.beq 1 z) x := rfl
@[simp] theorem lnK_sl (o : Bool) (z' : Nat) (l : List PV) : lnK z (.sl o z' l) x = gb (Nat.beq 1 z) x := rfl
@[simp] theorem lnK_bs (g : Bool) (b o n z' : Nat) : lnK z (.bs g b o n z') x = gb (Nat.beq 1 z) x := rfl
@[simp] theorem unI_int (kd : IntKind) (n : Int) (f : Int → Option R) : unI kd (.int kd n) f = f n := by
 cases kd<;>rfl
@[simp] theorem anyI_int (kd : IntKind) (n : Int) (f : Int → Option R) : anyI (.int kd n) f = f n := rfl
@[simp] theorem unB_bool (b : Bool) (f : Bool → Option R) : unB (.bool b) f = f b := rfl
@[simp] theorem unS_str (b : ByteArray) (f : ByteArray → Option R) : unS (.str b) f = f b := rfl
@[simp] theorem unG_ptr (b o : Nat) (f : Nat → Nat → Option R) : unG (.ptr true b o) f = f b o := rfl
@[simp] theorem unA_agg (cs : List PV) (f : Fn n (Option R)) : unA n (.agg cs) f = unN n cs f := rfl
@[simp] theorem unT_tup (cs : List PV) (f : Fn n (Option R)) : unT n (.tup cs) f = unN n cs f := rfl
@[simp] theorem unN_zero (f : Fn 0 (Option R)) : unN 0 [] f = f := rfl
@[simp] theorem unN_succ (c : PV) (l : List PV) (f : Fn (n + 1) (Option R)) : unN (n + 1) (c :: l) f = unN n l (f c) := rfl
@[simp] theorem nilB_nil (f : Bool → Option R) : nilB .nilI f = f true := rfl
@[simp] theorem nilB_some (f : Bool → Option R) : nilB .someI f = f false := rfl
@[simp] theorem degr_int (kd : IntKind) (n : Int) : degr (.int kd n) = .int kd n := rfl
@[simp] theorem degr_bool (b : Bool) : degr (.bool b) = .bool b := rfl
@[simp] theorem degr_str (b : ByteArray) : degr (.str b) = .str b := rfl
@[simp] theorem degr_sl (o : Bool) (l : List PV) : degr (.sl o z l) = .sl false z l := rfl
@[simp] theorem degr_agg (l : List PV) : degr (.agg l) = .agg (l.map degr1) := rfl
@[simp] theorem degr_tup (l : List PV) : degr (.tup l) = .tup (l.map degr1) := rfl
@[simp] theorem degr_bs (g : Bool) (b o n : Nat) : degr (.bs g b o n z) = .bs g b o n z := rfl
@[simp] theorem degr_ptr (g : Bool) (b o : Nat) : degr (.ptr g b o) = .ptr g b o := rfl
@[simp] theorem degr_nilp : degr .nilp = .nilp := rfl
@[simp] theorem degr_ep (e : PV) (o : Nat) : degr (.ep e o) = .ep e o := rfl
@[simp] theorem degr_mp (b : Nat) : degr (.mp b) = .mp b := rfl
@[simp] theorem degr_nilm : degr .nilm = .nilm := rfl
@[simp] theorem degr_nilf : degr .nilf = .nilf := rfl
@[simp] theorem degr_nils : degr .nils = .nils := rfl
@[simp] theorem degr_sub (b g o n : Nat) : degr (.sub b g o n) = .sub b g o n := rfl
@[simp] theorem degr_stk (b g n : Nat) : degr (.stk b g n) = .stk b g n := rfl
@[simp] theorem degr_pstk (b g n : Nat) : degr (.pstk b g n) = .pstk b g n := rfl
@[simp] theorem degr_fn (f : Nat) (l : List PV) : degr (.fn f l) = .fn f l := rfl
@[simp] theorem degr_nilI : degr .nilI = .nilI := rfl
@[simp] theorem degr_someI : degr .someI = .someI := rfl
@[simp] theorem degr1_int (kd : IntKind) (n : Int) : degr1 (.int kd n) = .int kd n := rfl
@[simp] theorem degr1_bool (b : Bool) : degr1 (.bool b) = .bool b := rfl
@[simp] theorem degr1_str (b : ByteArray) : degr1 (.str b) = .str b := rfl
@[simp] theorem degr1_sl (o : Bool) (l : List PV) : degr1 (.sl o z l) = .sl false z l := rfl
@[simp] theorem degr1_agg (l : List PV) : degr1 (.agg l) = .agg l := rfl
@[simp] theorem degr1_bs (g : Bool) (b o n : Nat) : degr1 (.bs g b o n z) = .bs g b o n z := rfl
@[simp] theorem degr1_ptr (g : Bool) (b o : Nat) : degr1 (.ptr g b o) = .ptr g b o := rfl
@[simp] theorem degr1_nilp : degr1 .nilp = .nilp := rfl
@[simp] theorem degr1_ep (e : PV) (o : Nat) : degr1 (.ep e o) = .ep e o := rfl
@[simp] theorem degr1_mp (b : Nat) : degr1 (.mp b) = .mp b := rfl
@[simp] theorem degr1_nilm : degr1 .nilm = .nilm := rfl
@[simp] theorem degr1_nilf : degr1 .nilf = .nilf := rfl
@[simp] theorem degr1_nils : degr1 .nils = .nils := rfl
@[simp] theorem degr1_sub (b g o n : Nat) : degr1 (.sub b g o n) = .sub b g o n := rfl
@[simp] theorem degr1_stk (b g n : Nat) : degr1 (.stk b g n) = .stk b g n := rfl
@[simp] theorem degr1_fn (f : Nat) (l : List PV) : degr1 (.fn f l) = .fn f l := rfl
@[simp] theorem degr1_nilI : degr1 .nilI = .nilI := rfl
@[simp] theorem degr1_someI : degr1 .someI = .someI := rfl
@[simp] theorem cells_agg (l : List PV) : PV.cells (.agg l) = l := rfl
@[simp] theorem cells_int (kd : IntKind) (n : Int) : PV.cells (.int kd n) = [.int kd n] := rfl
@[simp] theorem cells_bool (b : Bool) : PV.cells (.bool b) = [.bool b] := rfl
@[simp] theorem cells_str (b : ByteArray) : PV.cells (.str b) = [.str b] := rfl
@[simp] theorem cells_sl (o : Bool) (l : List PV) : PV.cells (.sl o z l) = [.sl o z l] := rfl
@[simp] theorem cells_bs (g : Bool) (b o n : Nat) : PV.cells (.bs g b o n z) = [.bs g b o n z] := rfl
@[simp] theorem cells_sub (b g o n : Nat) : PV.cells (.sub b g o n) = [.sub b g o n] := rfl
@[simp] theorem cells_stk (b g n : Nat) : PV.cells (.stk b g n) = [.stk b g n] := rfl
@[simp] theorem ghCells_some (gh : List GObj) (b : Nat) : ghCells gh b = (match gh[b]? with | some (.cells cs) => some cs | _ => none) := rfl
@[simp] theorem ghMap_some (gh : List GObj) (b : Nat) : ghMap gh b = (match gh[b]? with | some (.map cs) => some cs | _ => none) := rfl
@[simp] theorem grab_false (cs : List PV) : grab false k off cs = cs[off]? := rfl
@[simp] theorem grab_true (cs : List PV) : grab true k off cs = if off + k ≤ cs.length then some (.agg ((cs.drop off).take k)) else none := rfl
@[simp] theorem ldX_ep (lh : List (List PV)) (gh : List GObj) (agg : Bool) (e : PV) (f : PV → Option R) : ldX lh gh agg k (.ep e off) f = ob (grab agg k off e.cells) f := rfl
@[simp] theorem lkK_pstk (gh : List GObj) (b g i : Nat) (f : PV → Option R) : lkK gh (.pstk b g i) f = ob (stkGet gh b g i) f := rfl
@[simp] theorem ldX_ptrt (lh : List (List PV)) (gh : List GObj) (agg : Bool) (b : Nat) (f : PV → Option R) : ldX lh gh agg k (.ptr true b off) f = ob (ghCells gh b) fun cs => ob (grab agg k off cs) fun v => f (degr v) := rfl
@[simp] theorem ldX_ptrf (lh : List (List PV)) (gh : List GObj) (agg : Bool) (b : Nat) (f : PV → Option R) : ldX lh gh agg k (.ptr false b off) f = ob lh[b]? fun cs => ob (grab agg k off cs) fun v => f (degr v) := by
 simp only[ldX,jal]
 cases lh[b]? with
 |none=>rfl
 |some cs=>
  show (match grab agg k off cs with|some v=>f (degr v)|none=>none)=ob (grab agg k off cs) fun v=>f (degr v)
  cases grab agg k off cs<;>rfl
@[simp] theorem stOk_eq (cs old : List PV) : stOk k off cs old = decide (cs.length = k ∧ off + k ≤ old.length) := by
 rw[Bool.eq_iff_iff,stOk_iff];simp
@[simp] theorem lenB_eq' (l : List PV) (n : Nat) : lenB l n = decide (l.length = n) := lenB_eq l n
@[simp] theorem faX_ep (e : PV) (o : Nat) (f : PV → Option R) : faX (.ep e o) off f = f (.ep e (o + off)) := rfl
@[simp] theorem faX_ptr (g : Bool) (b o : Nat) (f : PV → Option R) : faX (.ptr g b o) off f = f (.ptr g b (o + off)) := rfl
@[simp] theorem fdX_agg (cs : List PV) (agg : Bool) (f : PV → Option R) : fdX (.agg cs) agg k off f = ob (grab agg k off cs) f := rfl
@[simp] theorem idX_sl (o : Bool) (z' : Nat) (xs : List PV) (i : Int) (f : PV → Option R) : idX z none (.sl o z' xs) i f = gd (decide (0 ≤ i ∧ z = z')) (ob xs[i.toNat]? fun e => f (.ep e 0)) := rfl
@[simp] theorem idX_bs (g : Bool) (b off n z' : Nat) (i : Int) (f : PV → Option R) : idX z none (.bs g b off n z') i f = gd (decide (0 ≤ i ∧ i < n ∧ z = z')) (f (.ptr g b (off + i.toNat * z))) := rfl
@[simp] theorem idX_stk (b g n : Nat) (i : Int) (f : PV → Option R) : idX z none (.stk b g n) i f = gd (decide (0 ≤ i ∧ i < n ∧ z = 1)) (f (.pstk b g i.toNat)) := rfl
@[simp] theorem idX_arr (g : Bool) (b o m : Nat) (i : Int) (f : PV → Option R) : idX z (some m) (.ptr g b o) i f = gd (decide (0 ≤ i ∧ i < m)) (f (.ptr g b (o + i.toNat * z))) := rfl
@[simp] theorem idX_arrep (e : PV) (o m : Nat) (i : Int) (f : PV → Option R) : idX z (some m) (.ep e o) i f = gd (decide (0 ≤ i ∧ i < m)) (f (.ep e (o + i.toNat * z))) := rfl
@[simp] theorem ixX_agg (cs : List PV) (arr : Nat) (agg : Bool) (i : Int) (f : PV → Option R) : ixX (.agg cs) z arr agg i f = gd (decide (0 ≤ i ∧ i < arr)) (ob (grab agg z (i.toNat * z) cs) f) := rfl
@[simp] theorem isX_str (b : ByteArray) (i : Int) (f : Int → Option R) : isX (.str b) i f = gd (decide (0 ≤ i)) (ob b[i.toNat]? fun u => f u.toNat) := rfl
@[simp] theorem lkX_mp (gh : List GObj) (kn b : Nat) (kv : PV) (f : Option PV → Option R) : lkX gh kn (.mp b) kv f = ob (ghMap gh b) fun es => gd (isKey kn kv) (ob (mfind kn es kv) f) := rfl
@[simp] theorem muX_mp (gh : List GObj) (kn b : Nat) (kv v : PV) (f : List GObj → Option R) : muX gh kn (.mp b) kv v f = ob (ghMap gh b) fun es => gd (argOk kv && (argOk v && isKey kn kv)) (ob (mset kn es kv v) fun es' => f (gh.set b (.map es'))) := rfl
@[simp] theorem jgy (o : Bool) (xs : List PV) (f : Nat → Option R) : lenS (.sl o z xs) f = f xs.length := rfl
@[simp] theorem lenS_bs (g : Bool) (b o n : Nat) (f : Nat → Option R) : lenS (.bs g b o n z) f = f n := rfl
@[simp] theorem lenS_stk (b g n : Nat) (f : Nat → Option R) : lenS (.stk b g n) f = f n := rfl
@[simp] theorem lenM_mp (gh : List GObj) (b : Nat) (f : Nat → Option R) : lenM gh (.mp b) f = ob (ghMap gh b) fun es => f es.length := rfl
@[simp] theorem apX_sl (bytes : Nat) (o p : Bool) (z1 z2 : Nat) (xs ys : List PV) (f : List PV → Option R) : apX z bytes (.sl o z1 xs) (.sl p z2 ys) f = gd (decide (o = true ∧ z1 = z ∧ z2 = z ∧ (xs.length + ys.length) * bytes ≤ maxBytes)) (f (xs ++ ys)) := rfl
@[simp] theorem exX_tup (vs : List PV) (f : PV → Option R) : exX (.tup vs) i f = ob vs[i]? f := rfl
@[simp] theorem fnX_fn (f : Nat) (cs : List PV) (g : Nat → List PV → Option R) : fnX (.fn f cs) g = g f cs := rfl
@[simp] theorem callR_t (gh : List GObj) (r : PV) (f : PV → List GObj → Option R) : callR gh true (some (r, gh)) f = f r gh := by simp [callR]
@[simp] theorem callR_f (gh gh' : List GObj) (r : PV) (f : PV → List GObj → Option R) : callR gh false (some (r, gh')) f = f r gh' := rfl
@[simp] theorem callE_some (us : List PV) (r : PV) (f : PV → Option R) : callE us (some (r, [])) f = gd (noGs us) (gd (isFlat r) (f r)) := rfl
@[simp] theorem elK_eq (gh : List GObj) (vs : List PV) (k : List PV → Option R) : elK gh vs k = ob (elPs gh vs) k := by
 unfold elK ob;cases elPs gh vs<;>rfl
@[simp] theorem isFlat_int (kd : IntKind) (n : Int) : isFlat (.int kd n) = true := rfl
@[simp] theorem isFlat_bool (b : Bool) : isFlat (.bool b) = true := rfl
@[simp] theorem callN_some (vs : List PV) (r : PV) (f : PV → Option R) : callN vs (some (r, [])) f = gd (noGs vs) (gd r.noG (f r)) := rfl
@[simp] theorem bd_none (d : Nat) (f : Nat → Option R) : bd d none f = f d := rfl
@[simp] theorem bd_some (d : Nat) (i : Int) (f : Nat → Option R) : bd d (some i) f = gd (decide (0 ≤ i)) (f i.toNat) := rfl
@[simp] theorem slX_sl (o : Bool) (z' : Nat) (xs : List PV) (lo hi : Option Int) (f : PV → Option R) : slX z (.sl o z' xs) lo hi f = bd xs.length hi fun h => bd 0 lo fun l => gd (decide (l ≤ h ∧ h ≤ xs.length ∧ z = z')) (f (.sl false z ((xs.take h).drop l))) := rfl
@[simp] theorem slX_bs (g : Bool) (b off n z' : Nat) (lo hi : Option Int) (f : PV → Option R) : slX z (.bs g b off n z') lo hi f = bd n hi fun h => bd 0 lo fun l => gd (decide (l ≤ h ∧ h ≤ n ∧ z = z')) (f (.bs g b (off + l * z) (h - l) z)) := rfl
@[simp] theorem slX_stk (b g n : Nat) (hi : Option Int) (f : PV → Option R) : slX z (.stk b g n) none hi f = bd n hi fun h => gd (decide (h ≤ n ∧ z = 1)) (f (.stk b g h)) := rfl
@[simp] theorem slX_stk_some (b g n : Nat) (lo : Int) (hi : Option Int) (f : PV → Option R) : slX z (.stk b g n) (some lo) hi f = bd n hi fun h => bd 0 (some lo) fun l => gd (decide (l ≤ h ∧ h ≤ n ∧ z = 1)) (f (.sub b g l (h - l))) := rfl
@[simp] theorem slX_sub (b g o n : Nat) (lo hi : Option Int) (f : PV → Option R) : slX z (.sub b g o n) lo hi f = bd n hi fun h => bd 0 lo fun l => gd (decide (l ≤ h ∧ h ≤ n ∧ z = 1)) (f (.sub b g (o + l) (h - l))) := rfl
@[simp] theorem idX_sub (b g o n : Nat) (i : Int) (f : PV → Option R) : idX z none (.sub b g o n) i f = gd (decide (0 ≤ i ∧ i < n ∧ z = 1)) (f (.pstk b g (o + i.toNat))) := rfl
@[simp] theorem lenS_sub (b g o n : Nat) (f : Nat → Option R) : lenS (.sub b g o n) f = f n := rfl
@[simp] theorem anX_nils (gh : List GObj) (bytes : Nat) (w : PV) (f : List GObj → PV → Option R) : anX gh bytes .nils w f = ob (elsOf gh w) fun ys => gd (decide (ys ≠ [] ∧ ys.length * bytes ≤ maxBytes ∧ ys.all isFlat = true)) (f (gh ++ [.stk 0 ys]) (.stk gh.length 0 ys.length)) := rfl
@[simp] theorem anX_stk (gh : List GObj) (bytes b gen n : Nat) (w : PV) (f : List GObj → PV → Option R) : anX gh bytes (.stk b gen n) w f = akX gh bytes (.stk b gen n) w f := rfl
@[simp] theorem lenS_nils (f : Nat → Option R) : lenS .nils f = f 0 := rfl
@[simp] theorem akX_stk (gh : List GObj) (bytes b gen n : Nat) (w : PV) (f : List GObj → PV → Option R) : akX gh bytes (.stk b gen n) w f = ob (elsOf gh w) fun ys => ob (ghStk gh b) fun p => gd (decide (p.1 = gen ∧ n ≤ p.2.length ∧ (n + ys.length) * bytes ≤ maxBytes ∧ apart b w = true ∧ ys.all isFlat = true)) (f (gh.set b (.stk (p.1 + 1) (p.2.take n ++ ys))) (.stk b (p.1 + 1) (n + ys.length))) := rfl
@[simp] theorem ssX_str (b : ByteArray) (lo hi : Option Int) (f : ByteArray → Option R) : ssX (.str b) lo hi f = bd b.size hi fun h => bd 0 lo fun l => gd (decide (l ≤ h ∧ h ≤ b.size)) (f (b.extract l h)) := rfl
@[simp] theorem slK_nil : slK z [] x = x := rfl
@[simp] theorem slK_cons (c : PV) (l : List PV) : slK z (c :: l) x = arK c (lnK z c (slK z l x)) := rfl
@[simp] theorem skK_pstk (gh : List GObj) (b gen i : Nat) (w : PV) (f : List GObj → Option R) : skK gh (.pstk b gen i) w f = ob (ghStk gh b) fun p => gd (decide (p.1 = gen ∧ i < p.2.length ∧ isFlat w = true)) (f (gh.set b (.stk p.1 (p.2.set i w)))) := rfl
@[simp] theorem ckK_sub (gh : List GObj) (b gen o n : Nat) (f : List GObj → Option R) : ckK gh (.sub b gen o n) f = ob (ghStk gh b) fun p => gd (decide (p.1 = gen ∧ o + n ≤ p.2.length)) (f (gh.set b (.stk p.1 (p.2.take o ++ List.replicate n (.int .i64 0) ++ p.2.drop (o + n))))) := rfl
@[simp] theorem aeX_sl (gh : List GObj) (bytes : Nat) (o : Bool) (z1 : Nat) (xs : List PV) (w : PV) (f : List PV → Option R) : aeX gh bytes (.sl o z1 xs) w f = ob (elsOf gh w) fun ys => gd (decide (o = true ∧ z1 = 1 ∧ ys.all isFlat = true ∧ (xs.length + ys.length) * bytes ≤ maxBytes)) (f (xs ++ ys)) := rfl
@[simp] theorem lbX_ptr (gh : List GObj) (agg : Bool) (b o b' o' : Nat) (f : PV → Option R) : lbX gh agg k (.ptr true b o) (.ptr true b' o') f = gd (decide (b = b')) (ob (ghCells gh b) fun cs => ob (grab agg k o cs) fun v => f (degr v)) := rfl
@[simp] theorem lkbX_stk (gh : List GObj) (b gen i b' g' n' : Nat) (f : PV → Option R) : lkbX gh (.pstk b gen i) (.stk b' g' n') f = gd (decide (b = b')) (ob (stkGet gh b gen i) f) := rfl
@[simp] theorem ltbX_ptr (gh : List GObj) (b o b' o' o2 : Nat) (f : PV → List GObj → Option R) : ltbX gh (.ptr true b o) (.ptr true b' o') o2 f = gd (decide (b = b' ∧ o = o' + o2)) (ob (ghCells gh b) fun cs => ob cs[o]? fun v => f v (gh.set b (.cells (spliceAt cs o [degr1 v])))) := rfl
@[simp] theorem kpX_nil (e : List (Nat × PV)) (gh gh' : List GObj) (x : Option R) : kpX e gh gh' [] x = x := rfl
@[congr] theorem skK_congr {gh gh' : List GObj} {f : List GObj → Option R} {u u' : PV} (h0 : gh = gh') (h : v = w) (h1 : u = u') : skK gh v u f = skK gh' w u' f := by rw [h0, h, h1]
@[congr] theorem ckK_congr {gh gh' : List GObj} {f : List GObj → Option R} (h0 : gh = gh') (h : v = w) : ckK gh v f = ckK gh' w f := by rw [h0, h]
@[congr] theorem aeX_congr {gh gh' : List GObj} {bytes : Nat} {u u' : PV} {f : List PV → Option R} (h0 : gh = gh') (h1 : u = u') (h : v = w) : aeX gh bytes u v f = aeX gh' bytes u' w f := by rw [h0, h1, h]
@[congr] theorem lbX_congr {gh gh' : List GObj} {agg : Bool} {u u' : PV} {f : PV → Option R} (h0 : gh = gh') (h : v = w) (h1 : u = u') : lbX gh agg k v u f = lbX gh' agg k w u' f := by rw [h0, h, h1]
@[congr] theorem lkbX_congr {gh gh' : List GObj} {u u' : PV} {f : PV → Option R} (h0 : gh = gh') (h : v = w) (h1 : u = u') : lkbX gh v u f = lkbX gh' w u' f := by rw [h0, h, h1]
@[congr] theorem ltbX_congr {gh gh' : List GObj} {u u' : PV} {o2 : Nat} {f : PV → List GObj → Option R} (h0 : gh = gh') (h : v = w) (h1 : u = u') : ltbX gh v u o2 f = ltbX gh' w u' o2 f := by rw [h0, h, h1]
@[congr] theorem kbX_congr {gh gh' g1 g1' : List GObj} (h0 : gh = gh') (h1 : g1 = g1') (h : v = w) : kbX gh g1 v x = kbX gh' g1' w x := by rw [h0, h1, h]
@[congr] theorem rtK_congr {c : List GObj → Option (PV × List GObj)} {gh gh' : List GObj} (h0 : gh = gh') (h : v = w) : rtK c gh v off x = rtK c gh' w off x := by rw [h0, h]
@[congr] theorem ob_congr {a b : Option α} {f : α → Option R} (h : a = b) : ob a f = ob b f := by rw [h]
@[congr] theorem gd_congr {a b : Bool} (h : a = b) : gd a x = gd b x := by rw [h]
@[congr] theorem gb_congr {a b : Bool} (h : a = b) : gb a x = gb b x := by rw [h]
@[congr] theorem br_congr {t : Nat} {a b : Bool} (h : a = b) : br t a x y = br t b x y := by rw [h]
@[congr] theorem kR_congr {a b : Option (IExit × St)} {f : IExit → St → Option R} (h : a = b) : kR a f = kR b f := by rw [h]
@[congr] theorem stK_congr (h : v = w) : stK nl v x = stK nl w x := by rw [h]
@[congr] theorem isC_congr (h : v = w) : isC v x = isC w x := by rw [h]
@[congr] theorem onK_congr (h : v = w) : onK v x = onK w x := by rw [h]
@[congr] theorem arK_congr (h : v = w) : arK v x = arK w x := by rw [h]
@[congr] theorem lnK_congr (h : v = w) : lnK z v x = lnK z w x := by rw [h]
@[congr] theorem arL_congr {l m : List PV} (h : l = m) : arL l x = arL m x := by rw [h]
@[congr] theorem allK_congr {l m : List PV} (h : l = m) : allK l x = allK m x := by rw [h]
@[congr] theorem slK_congr {l m : List PV} (h : l = m) : slK z l x = slK z m x := by rw [h]
@[congr] theorem unI_congr {kd : IntKind} {f : Int → Option R} (h : v = w) : unI kd v f = unI kd w f := by rw [h]
@[congr] theorem anyI_congr {f : Int → Option R} (h : v = w) : anyI v f = anyI w f := by rw [h]
@[congr] theorem unB_congr {f : Bool → Option R} (h : v = w) : unB v f = unB w f := by rw [h]
@[congr] theorem unS_congr {f : ByteArray → Option R} (h : v = w) : unS v f = unS w f := by rw [h]
@[congr] theorem unG_congr {f : Nat → Nat → Option R} (h : v = w) : unG v f = unG w f := by rw [h]
@[congr] theorem unA_congr {f : Fn n (Option R)} (h : v = w) : unA n v f = unA n w f := by rw [h]
@[congr] theorem unT_congr {f : Fn n (Option R)} (h : v = w) : unT n v f = unT n w f := by rw [h]
@[congr] theorem nilB_congr {f : Bool → Option R} (h : v = w) : nilB v f = nilB w f := by rw [h]
@[congr] theorem ldX_congr {lh lh' : List (List PV)} {gh gh' : List GObj} {agg : Bool} {f : PV → Option R} (h1 : lh = lh') (h2 : gh = gh') (h : v = w) : ldX lh gh agg k v f = ldX lh' gh' agg k w f := by rw [h1, h2, h]
@[congr] theorem faX_congr {f : PV → Option R} (h : v = w) : faX v off f = faX w off f := by rw [h]
@[congr] theorem fdX_congr {agg : Bool} {f : PV → Option R} (h : v = w) : fdX v agg k off f = fdX w agg k off f := by rw [h]
@[congr] theorem idX_congr {arr : Option Nat} {i j : Int} {f : PV → Option R} (h : v = w) (h2 : i = j) : idX z arr v i f = idX z arr w j f := by rw [h, h2]
@[congr] theorem ixX_congr {arr : Nat} {agg : Bool} {i j : Int} {f : PV → Option R} (h : v = w) (h2 : i = j) : ixX v z arr agg i f = ixX w z arr agg j f := by rw [h, h2]
@[congr] theorem isX_congr {i j : Int} {f : Int → Option R} (h : v = w) (h2 : i = j) : isX v i f = isX w j f := by rw [h, h2]
@[congr] theorem lkX_congr {gh gh' : List GObj} {kn : Nat} {m m' : PV} {f : Option PV → Option R} (h1 : gh = gh') (h2 : m = m') (h : v = w) : lkX gh kn m v f = lkX gh' kn m' w f := by rw [h1, h2, h]
@[congr] theorem muX_congr {gh gh' : List GObj} {kn : Nat} {m m' u u' : PV} {f : List GObj → Option R} (h1 : gh = gh') (h2 : m = m') (h : v = w) (h3 : u = u') : muX gh kn m v u f = muX gh' kn m' w u' f := by rw [h1, h2, h, h3]
@[congr] theorem lenS_congr {f : Nat → Option R} (h : v = w) : lenS v f = lenS w f := by rw [h]
@[congr] theorem lenM_congr {gh gh' : List GObj} {f : Nat → Option R} (h1 : gh = gh') (h : v = w) : lenM gh v f = lenM gh' w f := by rw [h1, h]
@[congr] theorem apX_congr {bytes : Nat} {u u' : PV} {f : List PV → Option R} (h1 : u = u') (h : v = w) : apX z bytes u v f = apX z bytes u' w f := by rw [h1, h]
@[congr] theorem lkK_congr {gh gh' : List GObj} {f : PV → Option R} (h0 : gh = gh') (h : v = w) : lkK gh v f = lkK gh' w f := by rw [h0, h]
@[congr] theorem akX_congr {gh gh' : List GObj} {bytes : Nat} {u u' : PV} {f : List GObj → PV → Option R} (h0 : gh = gh') (h1 : u = u') (h : v = w) : akX gh bytes u v f = akX gh' bytes u' w f := by rw [h0, h1, h]
@[congr] theorem exX_congr {f : PV → Option R} (h : v = w) : exX v i f = exX w i f := by rw [h]
@[congr] theorem fnX_congr {f : Nat → List PV → Option R} (h : v = w) : fnX v f = fnX w f := by rw [h]
@[congr] theorem callR_congr {gh gh' : List GObj} {q : Bool} {a b : Option (PV × List GObj)} {f : PV → List GObj → Option R} (h1 : gh = gh') (h : a = b) : callR gh q a f = callR gh' q b f := by rw [h1, h]
@[congr] theorem elK_congr {gh gh' : List GObj} {vs vs' : List PV} {k : List PV → Option R} (h1 : gh = gh') (h : vs = vs') : elK gh vs k = elK gh' vs' k := by rw [h1, h]
@[congr] theorem callE_congr {vs vs' : List PV} {a b : Option (PV × List GObj)} {f : PV → Option R} (h1 : vs = vs') (h : a = b) : callE vs a f = callE vs' b f := by rw [h1, h]
@[congr] theorem callN_congr {vs vs' : List PV} {a b : Option (PV × List GObj)} {f : PV → Option R} (h1 : vs = vs') (h : a = b) : callN vs a f = callN vs' b f := by rw [h1, h]
@[congr] theorem slX_congr {lo lo' hi hi' : Option Int} {f : PV → Option R} (h : v = w) (h1 : lo = lo') (h2 : hi = hi') : slX z v lo hi f = slX z w lo' hi' f := by rw [h, h1, h2]
@[congr] theorem ssX_congr {lo lo' hi hi' : Option Int} {f : ByteArray → Option R} (h : v = w) (h1 : lo = lo') (h2 : hi = hi') : ssX v lo hi f = ssX w lo' hi' f := by rw [h, h1, h2]
@[congr] theorem bd_congr {d d' : Nat} {a b : Option Int} {f : Nat → Option R} (h1 : d = d') (h : a = b) : bd d a f = bd d' b f := by rw [h1, h]
theorem onK_ok (h:v.one=true):onK v x=x:=by
 cases v with
 |ptr g b o=>cases g<;>simp[PV.one] at h;rfl
 |bs g b o n z=>cases g<;>simp[PV.one] at h;rfl
 |und=>simp[PV.one] at h
 |agg=>simp[PV.one] at h
 |tup=>simp[PV.one] at h
 |arr=>simp[PV.one] at h
 |junk=>simp[PV.one] at h
 |_=>rfl
theorem arL_ok {l:List PV} (h:l.all PV.one=true):arL l x=x:=by
 induction l with
 |nil=>rfl
 |cons c l ih=>
  simp only[List.all_cons,Bool.and_eq_true] at h
  rw[jml,onK_ok h.1,ih h.2]
theorem arK_ok (h:argOk v=true):arK v x=x:=by
 cases v with
 |agg l=>exact arL_ok h
 |ptr g b o=>cases g<;>simp[argOk,PV.cells,PV.one] at h;rfl
 |bs g b o n z=>cases g<;>simp[argOk,PV.cells,PV.one] at h;rfl
 |und=>simp[argOk,PV.cells,PV.one] at h
 |tup=>simp[argOk,PV.cells,PV.one] at h
 |arr=>simp[argOk,PV.cells,PV.one] at h
 |junk=>simp[argOk,PV.cells,PV.one] at h
 |_=>rfl
theorem jgz {l:List PV} (h:l.all argOk=true):allK l x=x:=by
 induction l with
 |nil=>rfl
 |cons c l ih=>
  simp only[List.all_cons,Bool.and_eq_true] at h
  rw[jmm,arK_ok h.1,ih h.2]
theorem jef {pg:Prg} {f:Nat} {fn:IFunc} {vs:List PV} {gh:List GObj} {e:IExit} {s:St} (h:pg f=some (.code fn)) (hl:vs.length=fn.np) (hr:runL pg fn.body ⟨enum 0 vs,[],gh⟩=some (e,s)) :
  callL pg f vs gh=finish fn gh (e,s):=by
 rw[jj0];unfold callBy;rw[h];simp[hl,hr]
theorem jaf {pg:Prg} {f:Nat} {fn:IFunc} {vs:List PV} {gh gh':List GObj} {s:St} {v:PV} (h:pg f=some (.code fn)) (hl:vs.length=fn.np) (hr:runL pg fn.body ⟨enum 0 vs,[],gh⟩=some (.ret,s))
  (hf:finish fn gh (.ret,s)=some (v,gh')):callL pg f vs gh=some (v,gh'):=by
 rw[jef h hl hr];exact hf
theorem jai {pg:Prg} {b:ICode} {id:Nat} {ks:List Nat} {s s1:St} {r:Option (IExit×St)} (h:runL pg b s=some (.normal,s1)) (h2:runL pg (.post (.block id (.loop b)) ks nl) s1=r):runL pg (.post (.block id (.loop b)) ks nl) s=r:=by
 rw[←h2,jc0,jbz,jdp,h,jc0,jbz]
theorem jat {pg:Prg} {b:ICode} {id:Nat} {ks:List Nat} {s s1:St} (h:runL pg b s=some (.exit id,s1)):runL pg (.post (.block id (.loop b)) ks nl) s=some (.normal,⟨keep nl ks s1.env,s1.lh.take nl,s1.gh⟩):=by
 rw[jc0,jbz,jdp,h];simp
theorem lp_ret {pg:Prg} {b:ICode} {id:Nat} {ks:List Nat} {s s1:St} (h:runL pg b s=some (.ret,s1)):runL pg (.post (.block id (.loop b)) ks nl) s=some (.ret,s1):=by
 rw[jc0,jbz,jdp,h]
end
end Go.Lw
end
