/-
  The texts that the proof stands on, part 10.
-/
import Derived.Test.YtmodipglnngghaaCnfTellsI
import Derived.KernelRfl
set_option linter.unusedVariables false
set_option linter.unusedSimpArgs false
set_option linter.unnecessarySimpa false

/-! What the code of function gates_Nodes comes to, piece by piece. Written by program (dprint.py). -/
section
set_option maxRecDepth 10000
set_option maxHeartbeats 4000000
namespace Go.Lw
open Go

def an_gates_Nodes : Tr := (.node 5 (.ce (.int .i64)) (.node 2 (.ce (.int .i64)) (.node 0 (.agg [.int .i64, .any]) .nil .nil) (.node 4 (.ce (.int .i64)) .nil .nil)) (.node 8 (.ce (.int .i64)) (.node 7 (.ce (.one)) .nil .nil) (.node 9 (.ce (.int .i64)) .nil .nil)))

noncomputable def D_gates_Nodes_0 (pg : Prg) (x0_0 : Int) (v0_1 : PV) (gh : List GObj) : Option (IExit × St) := onK (degr1 v0_1) (isC (degr (degr1 v0_1)) (lenS (degr (degr (degr1 v0_1))) fun n1 => some (.ret, ⟨[(2, (.int .i64 (IntKind.i64.wrap ((IntKind.i64.wrap (1 + x0_0)) + (n1 : Int)))))], [], gh⟩)))

theorem D_gates_Nodes_0_ok {pg : Prg} {gh : List GObj} {x0_0 : Int} {v0_1 : PV} {e : IExit} {s : St} (h : D_gates_Nodes_0 pg x0_0 v0_1 gh = some (e, s)) : runL pg f_gates_Nodes_0 ⟨[(0, (.agg [(.int .i64 x0_0), v0_1]))], [], gh⟩ = some (e, s) :=
  runX_ok an_gates_Nodes (Eq.trans (by kernel_rfl) h)

end Go.Lw
end

/-! What the code of function slices_ContainsFunc_Lint_int comes to, piece by piece. Written by program (dprint.py). -/
section
set_option maxRecDepth 10000
set_option maxHeartbeats 4000000
namespace Go.Lw
open Go

def an_slices_ContainsFunc_Lint_int : Tr := (.node 5 (.ce (.one)) (.node 1 (.ce (.one)) (.node 0 (.ce (.one)) .nil .nil) (.node 4 (.ce (.bool)) .nil .nil)) (.node 7 (.ce (.int .i64)) (.node 6 (.ce (.one)) .nil .nil) (.node 8 (.ce (.bool)) .nil .nil)))

noncomputable def D_slices_ContainsFunc_Lint_int_0 (pg : Prg) (v0 : PV) (v1 : PV) (gh : List GObj) : Option (IExit × St) := stK 0 v0 (stK 0 v1 (isC (degr v0) (isC (degr v1) (arK (degr (degr v0)) (arK (degr (degr v1)) (
  callR gh true (callL pg 111 [(degr (degr v0)), (degr (degr v1))] gh) fun r1 gh2 => unI .i64 r1 fun n3 => some (.ret, ⟨[(4, (.bool (decide (0 ≤ n3))))], [], gh2⟩)))))))

theorem D_slices_ContainsFunc_Lint_int_0_ok {pg : Prg} {gh : List GObj} {v0 : PV} {v1 : PV} {e : IExit} {s : St} (h : D_slices_ContainsFunc_Lint_int_0 pg v0 v1 gh = some (e, s)) : runL pg f_slices_ContainsFunc_Lint_int_0 ⟨[(0, v0), (1, v1)], [], gh⟩ = some (e, s) :=
  runX_ok an_slices_ContainsFunc_Lint_int (Eq.trans (by kernel_rfl) h)

end Go.Lw
end

/-! What the code of function slices_IndexFunc_Lint_int comes to, piece by piece. Written by program (dprint.py). -/
section
set_option maxRecDepth 10000
set_option maxHeartbeats 4000000
namespace Go.Lw
open Go

def an_slices_IndexFunc_Lint_int : Tr := (.node 10 (.ce (.int .i64)) (.node 6 (.ce (.one)) (.node 4 (.ce (.int .i64)) (.node 1 (.ce (.one)) (.node 0 (.ce (.one)) .nil .nil) .nil) (.node 5 (.ce (.int .i64)) .nil .nil)) (.node 8 (.ce (.int .i64)) (.node 7 (.ce (.int .i64)) .nil .nil) (.node 9 (.ce (.bool)) .nil .nil))) (.node 15 (.ce (.int .i64)) (.node 12 (.ce (.one)) (.node 11 (.ce (.one)) .nil .nil) (.node 13 (.ce (.int .i64)) .nil .nil)) (.node 17 (.ce (.int .i64)) (.node 16 (.ce (.bool)) .nil .nil) (.node 18 (.ce (.int .i64)) .nil .nil))))

noncomputable def D_slices_IndexFunc_Lint_int_b1 (pg : Prg) (v0 : PV) (v1 : PV) (x7 : Int) (x8 : Int) (gh : List GObj) : Option (IExit × St) := 
  br 9 (decide (x8 < x7)) (stK 0 v0 (stK 0 v1 (isC (degr v1) (isC (degr v0) (
  idX 1 none (degr (degr v0)) x8 fun p1 => 
  ldX [] gh false 1 (degr p1) fun v2 => unI .i64 v2 fun n3 => 
  fnX (degr (degr v1)) fun f6 cs7 => allK cs7 (callR gh true (callL pg f6 ([(.int .i64 n3)] ++ cs7) gh) fun r4 gh5 => unB r4 fun b8 => stK 0 v0 (stK 0 v1 (
  br 16 b8 (some (.ret, ⟨[(4, (.int .i64 x8))], [], gh5⟩)) (stK 0 v0 (stK 0 v1 (stK 0 v0 (stK 0 v1 (some (.normal, ⟨[(0, v0), (1, v1), (7, (.int .i64 x7)), (8, (.int .i64 (IntKind.i64.wrap (x8 + 1))))], [], gh5⟩)))))))))))))) (some ((.exit 0), ⟨[(0, v0), (1, v1), (7, (.int .i64 x7)), (8, (.int .i64 x8)), (9, (.bool (decide (x8 < x7))))], [], gh⟩))

theorem D_slices_IndexFunc_Lint_int_b1_ok {pg : Prg} {gh : List GObj} {v0 : PV} {v1 : PV} {x7 : Int} {x8 : Int} {e : IExit} {s : St} (h : D_slices_IndexFunc_Lint_int_b1 pg v0 v1 x7 x8 gh = some (e, s)) : runL pg f_slices_IndexFunc_Lint_int_b1 ⟨[(0, v0), (1, v1), (7, (.int .i64 x7)), (8, (.int .i64 x8))], [], gh⟩ = some (e, s) :=
  runX_ok an_slices_IndexFunc_Lint_int (Eq.trans (by kernel_rfl) h)

noncomputable def D_slices_IndexFunc_Lint_int_k1 (pg : Prg)  (gh : List GObj) : Option (IExit × St) := some (.ret, ⟨[(4, (.int .i64 (-1)))], [], gh⟩)

theorem D_slices_IndexFunc_Lint_int_k1_ok {pg : Prg} {gh : List GObj}  {e : IExit} {s : St} (h : D_slices_IndexFunc_Lint_int_k1 pg  gh = some (e, s)) : runL pg f_slices_IndexFunc_Lint_int_k1 ⟨[], [], gh⟩ = some (e, s) :=
  runX_ok an_slices_IndexFunc_Lint_int (Eq.trans (by kernel_rfl) h)

noncomputable def D_slices_IndexFunc_Lint_int_0 (pg : Prg) (v0 : PV) (v1 : PV) (gh : List GObj) : Option (IExit × St) := stK 0 v0 (stK 0 v1 (isC (degr v0) (lenS (degr (degr v0)) fun n1 => stK 0 v0 (stK 0 v1 (
  kR (runL pg f_slices_IndexFunc_Lint_int_l1 ⟨[(0, v0), (1, v1), (7, (.int .i64 (n1 : Int))), (8, (.int .i64 0))], [], gh⟩) (fun e s => nx e s (fun e s => some (e, s)) fun s => kR (runL pg f_slices_IndexFunc_Lint_int_k1 s) (fun e s => some (e, s))))))))

theorem D_slices_IndexFunc_Lint_int_0_ok {pg : Prg} {gh : List GObj} {v0 : PV} {v1 : PV} {e : IExit} {s : St} (h : D_slices_IndexFunc_Lint_int_0 pg v0 v1 gh = some (e, s)) : runL pg f_slices_IndexFunc_Lint_int_0 ⟨[(0, v0), (1, v1)], [], gh⟩ = some (e, s) :=
  runX_ok an_slices_IndexFunc_Lint_int (Eq.trans (by kernel_rfl) h)

end Go.Lw
end

/-! What the functions of package gates come to. -/
section
namespace Go.Lw
open Go

theorem Nodes_eq (ins : Int) (ands : List (Int × Int)) (gh : List GObj) : callL pg 88 [graphV ins ands] gh = some (I (IntKind.i64.wrap (IntKind.i64.wrap (1 + ins) + ands.length)), gh) := by
  rw [callL_code (fn := f_gates_Nodes) (s := ⟨[(2, I (IntKind.i64.wrap (IntKind.i64.wrap (1 + ins) + ands.length)))], [], gh⟩) (e := .ret) rfl rfl (D_gates_Nodes_0_ok (by simp [D_gates_Nodes_0]))]
  simp [finish, results, f_gates_Nodes, resOfs, resOf, resOk, argOk, PV.one, PV.noG]

/-! ### slices -/
theorem IndexFunc_loop {xs : List Int} {c : Nat} {caps : List PV} {gh : List GObj} {p : Int → Bool} (hc : ∀ x ∈ xs, callL pg c (I x :: caps) gh = some (B (p x), gh)) (hcap : caps.all argOk = true) (hs : Sz xs.length) :
    ∀ k i, i + k = xs.length → runL pg f_slices_IndexFunc_Lint_int_l1 ⟨[(0, LI xs), (1, .fn c caps), (7, I xs.length), (8, I i)], [], gh⟩ =
      match (xs.drop i).findIdx? p with
      | some j => some (.ret, ⟨[(4, I ((i + j : Nat)))], [], gh⟩)
      | none => some (.normal, ⟨[], [], gh⟩)
  | 0, i, h => by
    rw [List.drop_eq_nil_of_le (by omega)]
    refine (lp_exit (s1 := ?s1) (D_slices_IndexFunc_Lint_int_b1_ok ?h1)).trans ?r1
    case h1 => simp [D_slices_IndexFunc_Lint_int_b1, show i = xs.length by omega]; rfl
    case r1 => simp [keep]
  | k + 1, i, h => by
    have hlt : i < xs.length := by omega
    have hx : xs[i]? = some xs[i] := List.getElem?_eq_getElem hlt
    rw [List.drop_eq_getElem_cons hlt, List.findIdx?_cons]
    cases hp : p xs[i] with
    | true =>
      refine (lp_ret (s1 := ?s2) (D_slices_IndexFunc_Lint_int_b1_ok ?h2)).trans ?r2
      case h2 => simp [D_slices_IndexFunc_Lint_int_b1, hlt, hx, allK_ok hcap, hc xs[i] (List.getElem_mem hlt), hp]; rfl
      case r2 => simp
    | false =>
      refine lp_next (s1 := ?s3) (D_slices_IndexFunc_Lint_int_b1_ok ?h3) ?r3
      case h3 => simp [D_slices_IndexFunc_Lint_int_b1, hlt, hx, allK_ok hcap, hc xs[i] (List.getElem_mem hlt), hp]; rfl
      case r3 =>
        rw [wrap_nat (by omega)]
        refine (IndexFunc_loop hc hcap hs k (i + 1) (by omega)).trans ?_
        cases (xs.drop (i + 1)).findIdx? p <;> simp
        omega

theorem IndexFunc_eq {xs : List Int} {c : Nat} {caps : List PV} {gh : List GObj} {p : Int → Bool} (hc : ∀ x ∈ xs, callL pg c (I x :: caps) gh = some (B (p x), gh)) (hcap : caps.all argOk = true) (hs : Sz xs.length) :
    callL pg 111 [LI xs, .fn c caps] gh = some (I (match xs.findIdx? p with | some j => (j : Int) | none => -1), gh) := by
  have hl := IndexFunc_loop hc hcap hs xs.length 0 (by omega)
  simp only [List.drop_zero, Nat.zero_add, Int.natCast_zero] at hl
  cases hf : xs.findIdx? p with
  | some j =>
    rw [hf] at hl
    refine callL_fn (fn := f_slices_IndexFunc_Lint_int) (s := ?s4) rfl rfl (D_slices_IndexFunc_Lint_int_0_ok ?h4) ?r4
    case h4 => simp [D_slices_IndexFunc_Lint_int_0, hl]; rfl
    case r4 => simp [finish, results, f_slices_IndexFunc_Lint_int, resOfs, resOf, resOk, argOk, PV.one, PV.noG]
  | none =>
    rw [hf] at hl
    refine callL_fn (fn := f_slices_IndexFunc_Lint_int) (s := ?s5) rfl rfl (D_slices_IndexFunc_Lint_int_0_ok ?h5) ?r5
    case h5 => simp [D_slices_IndexFunc_Lint_int_0, hl, D_slices_IndexFunc_Lint_int_k1_ok (s := ⟨[(4, I (-1))], [], gh⟩) (e := .ret) rfl]; rfl
    case r5 => simp [finish, results, f_slices_IndexFunc_Lint_int, resOfs, resOf, resOk, argOk, PV.one, PV.noG]

theorem ContainsFunc_eq {xs : List Int} {c : Nat} {caps : List PV} {gh : List GObj} {p : Int → Bool} (hc : ∀ x ∈ xs, callL pg c (I x :: caps) gh = some (B (p x), gh)) (hcap : caps.all argOk = true) (hs : Sz xs.length) :
    callL pg 86 [LI xs, .fn c caps] gh = some (B (xs.any p), gh) := by
  refine callL_fn (fn := f_slices_ContainsFunc_Lint_int) (s := ?s6) rfl rfl (D_slices_ContainsFunc_Lint_int_0_ok ?h6) ?r6
  case h6 => simp [D_slices_ContainsFunc_Lint_int_0, IndexFunc_eq hc hcap hs]; rfl
  case r6 =>
    have : (decide (0 ≤ (match xs.findIdx? p with | some j => (j : Int) | none => -1))) = xs.any p := by
      cases hf : xs.findIdx? p with
      | some j =>
        have := List.findIdx?_eq_some_iff_getElem.1 hf
        obtain ⟨hj, hpj, _⟩ := this
        simp only [Int.natCast_nonneg, decide_true]
        exact (List.any_eq_true.2 ⟨_, List.getElem_mem hj, hpj⟩).symm
      | none =>
        have := List.findIdx?_eq_none_iff.1 hf
        simp only [show decide ((0 : Int) ≤ -1) = false by decide]
        exact (List.any_eq_false.2 fun x hx => by simp [this x hx]).symm
    simp [finish, results, f_slices_ContainsFunc_Lint_int, resOfs, resOf, resOk, argOk, PV.one, PV.noG, this]

end Go.Lw
end

/-! What the code of function gates_Check comes to, piece by piece. Written by program (dprint.py). -/
section
set_option maxRecDepth 10000
set_option maxHeartbeats 4000000
namespace Go.Lw
open Go

def an_gates_Check : Tr := (.node 35 (.ce (.bool)) (.node 17 (.ce (.bool)) (.node 9 (.ce (.bool)) (.node 4 (.ce (.int .i64)) (.node 2 (.ce (.int .i64)) (.node 0 (.agg [.int .i64, .any]) .nil .nil) (.node 3 (.ce (.one)) .nil .nil)) (.node 8 (.ce (.bool)) (.node 7 (.ce (.int .i64)) .nil .nil) .nil)) (.node 13 (.ce (.bool)) (.node 12 (.ce (.bool)) (.node 11 (.ce (.int .i64)) .nil .nil) .nil) (.node 16 (.ce (.int .i64)) (.node 15 (.ce (.one)) .nil .nil) .nil))) (.node 26 (.agg [.int .i64, .int .i64]) (.node 22 (.ce (.int .i64)) (.node 20 (.ce (.one)) (.node 18 (.ce (.one)) .nil .nil) (.node 21 (.ce (.int .i64)) .nil .nil)) (.node 24 (.ce (.int .i64)) (.node 23 (.ce (.bool)) .nil .nil) .nil)) (.node 31 (.ce (.bool)) (.node 30 (.ce (.int .i64)) (.node 28 (.ce (.int .i64)) .nil .nil) .nil) (.node 34 (.ce (.int .i64)) (.node 32 (.ce (.bool)) .nil .nil) .nil)))) (.node 51 (.ce (.int .i64)) (.node 44 (.ce (.int .i64)) (.node 40 (.ce (.int .i64)) (.node 37 (.ce (.bool)) (.node 36 (.ce (.bool)) .nil .nil) (.node 39 (.ce (.int .i64)) .nil .nil)) (.node 43 (.ce (.int .i64)) (.node 42 (.ce (.int .i64)) .nil .nil) .nil)) (.node 47 (.ce (.bool)) (.node 46 (.ce (.bool)) (.node 45 (.ce (.int .i64)) .nil .nil) .nil) (.node 50 (.ce (.int .i64)) (.node 48 (.ce (.bool)) .nil .nil) .nil))) (.node 59 (.ce (.int .i64)) (.node 56 (.ce (.bool)) (.node 54 (.ce (.int .i64)) (.node 53 (.ce (.int .i64)) .nil .nil) (.node 55 (.ce (.bool)) .nil .nil)) (.node 58 (.agg [.int .i64, .int .i64]) (.node 57 (.ce (.one)) .nil .nil) .nil)) (.node 63 (.ce (.one)) (.node 61 (.ce (.int .i64)) (.node 60 (.ce (.one)) .nil .nil) .nil) (.node 65 (.ce (.bool)) (.node 64 (.ce (.int .i64)) .nil .nil) .nil)))))

noncomputable def D_gates_Check_b1 (pg : Prg) (v3 : PV) (v20 : PV) (x21 : Int) (x22 : Int) (xc0_0 : Int) (vc0_1 : PV) (gh : List GObj) : Option (IExit × St) := 
  br 23 (decide (x22 < x21)) (
  idX 2 none (degr v20) x22 fun p1 => 
  ldX [[(.int .i64 xc0_0), vc0_1]] gh true 2 (degr p1) fun v2 => unA 2 v2 fun c3 c4 => unI .i64 c3 fun n5 => unI .i64 c4 fun n6 => stK 2 v3 (stK 2 v20 (
  br 32 (decide (n6 ≤ n5)) (stK 2 v3 (stK 2 v20 (some (.ret, ⟨[(2, (.int .i64 4))], [], gh⟩)))) (
  br 37 (decide (n5 < 2)) (stK 2 v3 (stK 2 v20 (some (.ret, ⟨[(2, (.int .i64 4))], [], gh⟩)))) (gd (decide ((2 : Int) ≠ 0)) (
  br 48 (decide ((IntKind.i64.wrap ((IntKind.i64.wrap (1 + xc0_0)) + x22)) ≤ (IntKind.i64.wrap (Int.tdiv n6 2)))) (stK 2 v3 (stK 2 v20 (some (.ret, ⟨[(2, (.int .i64 4))], [], gh⟩)))) (gd (decide ((2 : Int) ≠ 0)) (gd (decide ((2 : Int) ≠ 0)) (stK 2 v3 (stK 2 v20 (
  br 56 ((IntKind.i64.wrap (Int.tdiv n5 2)) == (IntKind.i64.wrap (Int.tdiv n6 2))) (some (.ret, ⟨[(2, (.int .i64 4))], [], gh⟩)) (isC (degr v3) (
  muX gh 2 (degr (degr v3)) (.agg [(.int .i64 n5), (.int .i64 n6)]) (.bool true) fun gh7 => stK 1 v3 (stK 1 v20 (stK 1 v3 (stK 1 v20 (stK 1 v3 (stK 1 v20 (some (.normal, ⟨[(1, (.ptr false 0 0)), (3, v3), (20, v20), (21, (.int .i64 x21)), (22, (.int .i64 (IntKind.i64.wrap (x22 + 1))))], [[(.int .i64 xc0_0), vc0_1]], gh7⟩)))))))))))))))))))) (some ((.exit 0), ⟨[(1, (.ptr false 0 0)), (3, v3), (20, v20), (21, (.int .i64 x21)), (22, (.int .i64 x22)), (23, (.bool (decide (x22 < x21))))], [[(.int .i64 xc0_0), vc0_1]], gh⟩))

theorem D_gates_Check_b1_ok {pg : Prg} {gh : List GObj} {v3 : PV} {v20 : PV} {x21 : Int} {x22 : Int} {xc0_0 : Int} {vc0_1 : PV} {e : IExit} {s : St} (h : D_gates_Check_b1 pg v3 v20 x21 x22 xc0_0 vc0_1 gh = some (e, s)) : runL pg f_gates_Check_b1 ⟨[(1, (.ptr false 0 0)), (3, v3), (20, v20), (21, (.int .i64 x21)), (22, (.int .i64 x22))], [[(.int .i64 xc0_0), vc0_1]], gh⟩ = some (e, s) :=
  runX_ok an_gates_Check (Eq.trans (by kernel_rfl) h)

noncomputable def D_gates_Check_k1 (pg : Prg) (v3 : PV) (xc0_0 : Int) (vc0_1 : PV) (gh : List GObj) : Option (IExit × St) := isC (degr v3) (
  lenM gh (degr (degr v3)) fun n1 => isC (degr vc0_1) (lenS (degr (degr vc0_1)) fun n2 => 
  br 65 (decide ((n1 : Int) < (n2 : Int))) (some (.ret, ⟨[(2, (.int .i64 6))], [], gh⟩)) (some (.ret, ⟨[(2, (.int .i64 0))], [], gh⟩))))

theorem D_gates_Check_k1_ok {pg : Prg} {gh : List GObj} {v3 : PV} {xc0_0 : Int} {vc0_1 : PV} {e : IExit} {s : St} (h : D_gates_Check_k1 pg v3 xc0_0 vc0_1 gh = some (e, s)) : runL pg f_gates_Check_k1 ⟨[(1, (.ptr false 0 0)), (3, v3)], [[(.int .i64 xc0_0), vc0_1]], gh⟩ = some (e, s) :=
  runX_ok an_gates_Check (Eq.trans (by kernel_rfl) h)

noncomputable def D_gates_Check_0 (pg : Prg) (x0_0 : Int) (v0_1 : PV) (gh : List GObj) : Option (IExit × St) := onK (degr1 v0_1) (
  br 9 (decide (x0_0 < 0)) (some (.ret, ⟨[(2, (.int .i64 3))], [], gh⟩)) (
  br 13 (decide (1000 < x0_0)) (some (.ret, ⟨[(2, (.int .i64 3))], [], gh⟩)) (isC (degr (degr1 v0_1)) (lenS (degr (degr (degr1 v0_1))) fun n1 => 
  br 17 (decide (1000000 < (n1 : Int))) (some (.ret, ⟨[(2, (.int .i64 2))], [], gh⟩)) (isC (degr (degr1 v0_1)) (lenS (degr (degr (degr1 v0_1))) fun n2 => stK 1 (degr (degr1 v0_1)) (
  kR (runL pg f_gates_Check_l1 ⟨[(1, (.ptr false 0 0)), (3, (.mp (List.length gh))), (20, (degr (degr1 v0_1))), (21, (.int .i64 (n2 : Int))), (22, (.int .i64 0))], [[(.int .i64 x0_0), (degr1 v0_1)]], (gh ++ [.map []])⟩) (fun e s => nx e s (fun e s => some (e, s)) fun s => kR (runL pg f_gates_Check_k1 s) (fun e s => some (e, s))))))))))

theorem D_gates_Check_0_ok {pg : Prg} {gh : List GObj} {x0_0 : Int} {v0_1 : PV} {e : IExit} {s : St} (h : D_gates_Check_0 pg x0_0 v0_1 gh = some (e, s)) : runL pg f_gates_Check_0 ⟨[(0, (.agg [(.int .i64 x0_0), v0_1]))], [], gh⟩ = some (e, s) :=
  runX_ok an_gates_Check (Eq.trans (by kernel_rfl) h)

end Go.Lw
end

/-! What the code of function gates_Is comes to, piece by piece. Written by program (dprint.py). -/
section
set_option maxRecDepth 10000
set_option maxHeartbeats 4000000
namespace Go.Lw
open Go

def an_gates_Is : Tr := (.node 5 (.ce (.one)) (.node 2 (.ce (.gp)) (.node 1 (.ce (.one)) (.node 0 (.agg [.int .i64, .any]) .nil .nil) .nil) (.node 4 (.ce (.bool)) .nil .nil)) (.node 7 (.ce (.bool)) (.node 6 (.ce (.one)) .nil .nil) (.node 8 (.ce (.bool)) .nil .nil)))

noncomputable def D_gates_Is_0 (pg : Prg) (x0_0 : Int) (v0_1 : PV) (v1 : PV) (gh : List GObj) : Option (IExit × St) := onK (degr1 v0_1) (stK 0 v1 (isC (degr v1) (arK (degr (degr v1)) (
  callR (gh ++ [.cells [(.int .i64 x0_0), (degr1 v0_1)]]) true (callL pg 86 [(degr (degr v1)), (.fn 85 [(.ptr true (List.length gh) 0)])] (gh ++ [.cells [(.int .i64 x0_0), (degr1 v0_1)]])) fun r1 gh2 => unB r1 fun b3 => some (.ret, ⟨[(4, (.bool (!b3)))], [], gh2⟩)))))

theorem D_gates_Is_0_ok {pg : Prg} {gh : List GObj} {x0_0 : Int} {v0_1 : PV} {v1 : PV} {e : IExit} {s : St} (h : D_gates_Is_0 pg x0_0 v0_1 v1 gh = some (e, s)) : runL pg f_gates_Is_0 ⟨[(0, (.agg [(.int .i64 x0_0), v0_1])), (1, v1)], [], gh⟩ = some (e, s) :=
  runX_ok an_gates_Is (Eq.trans (by kernel_rfl) h)

end Go.Lw
end

/-! What the code of function gates_Is_1 comes to, piece by piece. Written by program (dprint.py). -/
section
set_option maxRecDepth 10000
set_option maxHeartbeats 4000000
namespace Go.Lw
open Go

def an_gates_Is_1 : Tr := (.node 7 (.ce (.int .i64)) (.node 4 (.ce (.int .i64)) (.node 1 (.ce (.gp)) (.node 0 (.ce (.int .i64)) .nil .nil) (.node 3 (.ce (.bool)) .nil .nil)) (.node 6 (.ce (.bool)) (.node 5 (.ce (.bool)) .nil .nil) .nil)) (.node 10 (.ce (.int .i64)) (.node 9 (.ce (.int .i64)) (.node 8 (.agg [.int .i64, .any]) .nil .nil) .nil) (.node 12 (.ce (.bool)) (.node 11 (.ce (.bool)) .nil .nil) .nil)))

noncomputable def D_gates_Is_1_0 (pg : Prg) (x0 : Int) (g1 : Nat) (o1 : Nat) (gh : List GObj) : Option (IExit × St) := 
  br 6 (decide (x0 < 0)) (some (.ret, ⟨[(3, (.bool true))], [], gh⟩)) (
  ob (ghCells gh g1) fun cs1 => 
  ob (grab true 2 o1 cs1) fun v2 => unA 2 (degr v2) fun c3 c4 => unI .i64 c3 fun n5 => onK (degr1 c4) (
  callR gh true (callL pg 88 [(.agg [(.int .i64 n5), (degr1 c4)])] gh) fun r6 gh7 => unI .i64 r6 fun n8 => some (.ret, ⟨[(3, (.bool (decide ((IntKind.i64.wrap (2 * n8)) ≤ x0))))], [], gh7⟩)))

theorem D_gates_Is_1_0_ok {pg : Prg} {gh : List GObj} {x0 : Int} {g1 : Nat} {o1 : Nat} {e : IExit} {s : St} (h : D_gates_Is_1_0 pg x0 g1 o1 gh = some (e, s)) : runL pg f_gates_Is_1_0 ⟨[(0, (.int .i64 x0)), (1, (.ptr true g1 o1))], [], gh⟩ = some (e, s) :=
  runX_ok an_gates_Is_1 (Eq.trans (by kernel_rfl) h)

end Go.Lw
end

/-! Graphs: maps whose keys are Ands, and the check of a graph. -/
section
namespace Go.Lw
open Go

theorem andV_def (x : Int × Int) : andV x = .agg [I x.1, I x.2] := rfl

/-! maps by Ands -/
def mapA (l : List ((Int × Int) × PV)) : List (PV × PV) := l.map fun e => (andV e.1, e.2)
def setA : List ((Int × Int) × PV) → Int × Int → PV → List ((Int × Int) × PV)
  | [], k, v => [(k, v)]
  | (a, u) :: l, k, v => if k = a then (k, v) :: l else (a, u) :: setA l k v
def findA : List ((Int × Int) × PV) → Int × Int → Option PV
  | [], _ => none
  | (a, u) :: l, k => if k = a then some u else findA l k

theorem sameKey_and (x y : Int × Int) : sameKey 2 (andV x) (andV y) = some (decide (x = y)) := by
  obtain ⟨a, b⟩ := x
  obtain ⟨c, d⟩ := y
  by_cases h1 : a = c
  · by_cases h2 : b = d <;> simp [sameKey, andV, flatEq, sameCell, h1, h2, List.replicate]
  · simp [sameKey, andV, flatEq, sameCell, h1, List.replicate]

theorem mset_mapA (l : List ((Int × Int) × PV)) (k : Int × Int) (v : PV) : mset 2 (mapA l) (andV k) v = some (mapA (setA l k v)) := by
  induction l with
  | nil => rfl
  | cons x l ih =>
    obtain ⟨a, u⟩ := x
    by_cases h : k = a
    · simp [mapA, setA, mset, sameKey_and, h]
    · have : mset 2 (l.map fun e => (andV e.1, e.2)) (andV k) v = some (mapA (setA l k v)) := ih
      simp [mapA, setA, mset, sameKey_and, h, this]

theorem mfind_mapA (l : List ((Int × Int) × PV)) (k : Int × Int) : mfind 2 (mapA l) (andV k) = some (findA l k) := by
  induction l with
  | nil => rfl
  | cons x l ih =>
    obtain ⟨a, u⟩ := x
    have : mfind 2 (l.map fun e => (andV e.1, e.2)) (andV k) = some (findA l k) := ih
    by_cases h : k = a
    · simp [mapA, findA, mfind, sameKey_and, h]
    · simp [mapA, findA, mfind, sameKey_and, h, this]

theorem setA_new {l : List ((Int × Int) × PV)} {k : Int × Int} {v : PV} (h : k ∉ l.map (·.1)) : setA l k v = l ++ [(k, v)] := by
  induction l with
  | nil => rfl
  | cons x l ih =>
    obtain ⟨a, u⟩ := x
    simp only [List.map_cons, List.mem_cons, not_or] at h
    rw [setA, if_neg h.1, ih h.2]; rfl

theorem setA_len_old {l : List ((Int × Int) × PV)} {k : Int × Int} {v : PV} (h : k ∈ l.map (·.1)) : (setA l k v).length = l.length := by
  induction l with
  | nil => simp at h
  | cons x l ih =>
    obtain ⟨a, u⟩ := x
    rw [setA]
    split
    · rfl
    · rename_i hk
      simp only [List.map_cons, List.mem_cons] at h
      simp [ih (h.resolve_left hk)]

theorem setA_keys {l : List ((Int × Int) × PV)} {k : Int × Int} {v : PV} (x : Int × Int) : x ∈ (setA l k v).map (·.1) ↔ x = k ∨ x ∈ l.map (·.1) := by
  induction l with
  | nil => simp [setA]
  | cons y l ih =>
    obtain ⟨a, u⟩ := y
    rw [setA]
    split
    · rename_i hk; subst hk; simp
    · simp only [List.map_cons, List.mem_cons, ih]
      constructor
      · rintro (h | h | h)
        · exact .inr (.inl h)
        · exact .inl h
        · exact .inr (.inr h)
      · rintro (h | h | h)
        · exact .inr (.inl h)
        · exact .inl h
        · exact .inr (.inr h)

/-- The map that Check makes. -/
def metA : List (Int × Int) → List ((Int × Int) × PV) → List ((Int × Int) × PV)
  | [], m => m
  | x :: l, m => metA l (setA m x (B true))

theorem metA_len : ∀ (l : List (Int × Int)) (m : List ((Int × Int) × PV)), (metA l m).length ≤ m.length + l.length ∧ ((metA l m).length = m.length + l.length ↔ (l.Nodup ∧ ∀ x ∈ l, x ∉ m.map (·.1)))
  | [], m => by simp [metA]
  | x :: l, m => by
    obtain ⟨h1, h2⟩ := metA_len l (setA m x (B true))
    rw [metA]
    by_cases hx : x ∈ m.map (·.1)
    · have hl := setA_len_old (v := B true) hx
      rw [hl] at h1 h2
      refine ⟨by simp; omega, ?_⟩
      constructor
      · intro h; simp at h; omega
      · intro h; exact absurd hx (h.2 x (by simp))
    · have hl : (setA m x (B true)).length = m.length + 1 := by rw [setA_new hx]; simp
      rw [hl] at h1 h2
      refine ⟨by simp; omega, ?_⟩
      rw [show (x :: l).length = l.length + 1 from rfl, show m.length + (l.length + 1) = m.length + 1 + l.length by omega, h2, List.nodup_cons]
      constructor
      · rintro ⟨h3, h4⟩
        refine ⟨⟨fun hm => ?_, h3⟩, fun y hy => ?_⟩
        · exact h4 x hm ((setA_keys x).2 (.inl rfl))
        · rcases List.mem_cons.1 hy with rfl | hy
          · exact hx
          · exact fun hm => h4 y hy ((setA_keys y).2 (.inr hm))
      · rintro ⟨⟨h3, h4⟩, h5⟩
        refine ⟨h4, fun y hy hm => ?_⟩
        rcases (setA_keys y).1 hm with rfl | hm
        · exact h3 hy
        · exact h5 y (by simp [hy]) hm

/-- An And that may not stand at place i. -/
def badA (ins : Int) (i : Nat) (x : Int × Int) : Prop := x.2 ≤ x.1 ∨ x.1 < 2 ∨ 2 * (1 + ins + i) ≤ x.2 ∨ x.1 / 2 = x.2 / 2
instance (ins : Int) (i : Nat) (x : Int × Int) : Decidable (badA ins i x) := inferInstanceAs (Decidable (_ ∨ _))

/-- All Ands from place i on are right. -/
def okA (ins : Int) : Nat → List (Int × Int) → Bool
  | _, [] => true
  | i, x :: l => if badA ins i x then false else okA ins (i + 1) l

/-- What the check of a graph answers. -/
def chkE (ins : Int) (ands : List (Int × Int)) : Int :=
  if ¬ (0 ≤ ins ∧ ins ≤ 1000) then 3 else if 1000000 < ands.length then 2 else if okA ins 0 ands then (if ands.Nodup then 0 else 6) else 4

theorem tdiv2 {a : Int} (h : 0 ≤ a) : Int.tdiv a 2 = a / 2 := Int.tdiv_eq_ediv_of_nonneg h

section
variable {ins : Int} {ands : List (Int × Int)} {gh : List GObj}

theorem Check_b1 (hi : 0 ≤ ins ∧ ins ≤ 1000) (hl : ands.length ≤ 1000000) {i : Nat} (hlt : i < ands.length) (m : List ((Int × Int) × PV)) (hr : -9223372036854775808 ≤ ands[i].1 ∧ ands[i].1 ≤ 9223372036854775807) (hr2 : -9223372036854775808 ≤ ands[i].2 ∧ ands[i].2 ≤ 9223372036854775807) :
    D_gates_Check_b1 pg (.mp gh.length) (.sl false 2 (ands.map andV)) ands.length i ins (.sl false 2 (ands.map andV)) (gh ++ [.map (mapA m)]) =
      if badA ins i ands[i] then some (.ret, ⟨[(2, I 4)], [], gh ++ [.map (mapA m)]⟩)
      else some (.normal, ⟨[(1, .ptr false 0 0), (3, .mp gh.length), (20, .sl false 2 (ands.map andV)), (21, I ands.length), (22, I ((i + 1 : Nat) : Int))], [[I ins, .sl false 2 (ands.map andV)]], gh ++ [.map (mapA (setA m ands[i] (B true)))]⟩) := by
  have e2 : IntKind.i64.wrap ((i : Int) + 1) = ((i + 1 : Nat) : Int) := by rw [wrap_id (by omega) (by omega)]; omega
  have hx : (ands.map andV)[i]? = some (.agg [I ands[i].1, I ands[i].2]) := by simp [List.getElem?_eq_getElem hlt, andV]
  generalize hy : ands[i] = x at *
  obtain ⟨a, b⟩ := x
  simp only at hr hr2 hx
  have eN : IntKind.i64.wrap (IntKind.i64.wrap (1 + ins) + (i : Int)) = 1 + ins + i := by
    rw [wrap_id (n := 1 + ins) (by omega) (by omega), wrap_id (by omega) (by omega)]
  have hltI : (i : Int) < (ands.length : Int) := by omega
  by_cases h1 : b ≤ a
  · rw [if_pos (show badA ins i (a, b) from .inl h1)]
    simp [D_gates_Check_b1, hltI, hx, h1, -List.getElem?_map]
  by_cases h2 : a < 2
  · rw [if_pos (show badA ins i (a, b) from .inr (.inl h2))]
    simp [D_gates_Check_b1, hltI, hx, h1, h2, -List.getElem?_map]
  have ea : IntKind.i64.wrap (Int.tdiv a 2) = a / 2 := by rw [tdiv2 (by omega), wrap_id (by omega) (by omega)]
  have eb : IntKind.i64.wrap (Int.tdiv b 2) = b / 2 := by rw [tdiv2 (by omega), wrap_id (by omega) (by omega)]
  by_cases h3 : 2 * (1 + ins + i) ≤ b
  · rw [if_pos (show badA ins i (a, b) from .inr (.inr (.inl h3)))]
    have h3' : 1 + ins + (i : Int) ≤ b / 2 := by omega
    simp [D_gates_Check_b1, hltI, hx, h1, h2, eN, eb, h3', -List.getElem?_map]
  have h3' : ¬ 1 + ins + (i : Int) ≤ b / 2 := by omega
  by_cases h4 : a / 2 = b / 2
  · rw [if_pos (show badA ins i (a, b) from .inr (.inr (.inr h4)))]
    simp [D_gates_Check_b1, hltI, hx, h1, h2, eN, ea, eb, h3', h4, -List.getElem?_map]
  · rw [if_neg (show ¬ badA ins i (a, b) by rintro (h | h | h | h) <;> contradiction)]
    have hm := mset_mapA m (a, b) (B true)
    rw [andV_def] at hm
    simp [D_gates_Check_b1, hltI, hx, h1, h2, eN, ea, eb, h3', h4, e2, hm, -List.getElem?_map]

/-- All numbers of a graph are Go's. -/
def RA (ands : List (Int × Int)) : Prop := ∀ x ∈ ands, (-9223372036854775808 ≤ x.1 ∧ x.1 ≤ 9223372036854775807) ∧ (-9223372036854775808 ≤ x.2 ∧ x.2 ≤ 9223372036854775807)

def chkSt (gh : List GObj) (ins : Int) (ands : List (Int × Int)) (m : List ((Int × Int) × PV)) (i : Nat) : St :=
  ⟨[(1, .ptr false 0 0), (3, .mp gh.length), (20, .sl false 2 (ands.map andV)), (21, I ands.length), (22, I (i : Int))], [[I ins, .sl false 2 (ands.map andV)]], gh ++ [.map (mapA m)]⟩

theorem Check_loop (hi : 0 ≤ ins ∧ ins ≤ 1000) (hl : ands.length ≤ 1000000) (hr : RA ands) : ∀ k i m, i + k = ands.length →
    (okA ins i (ands.drop i) = true → runL pg f_gates_Check_l1 (chkSt gh ins ands m i) = some (.normal, ⟨[(1, .ptr false 0 0), (3, .mp gh.length)], [[I ins, .sl false 2 (ands.map andV)]], gh ++ [.map (mapA (metA (ands.drop i) m))]⟩)) ∧
    (okA ins i (ands.drop i) = false → ∃ m', runL pg f_gates_Check_l1 (chkSt gh ins ands m i) = some (.ret, ⟨[(2, I 4)], [], gh ++ [.map (mapA m')]⟩))
  | 0, i, m, h => by
    rw [List.drop_eq_nil_of_le (by omega)]
    refine ⟨fun _ => ?_, fun h => by simp [okA] at h⟩
    have hlt : ¬ (i : Int) < (ands.length : Int) := by omega
    refine (lp_exit (s1 := ?s1) (D_gates_Check_b1_ok ?h1)).trans ?r1
    case h1 => simp only [D_gates_Check_b1, decide_eq_false hlt, br_false]; rfl
    case r1 => rfl
  | k + 1, i, m, h => by
    have hlt : i < ands.length := by omega
    have hx := hr ands[i] (List.getElem_mem hlt)
    have hb := Check_b1 (gh := gh) hi hl hlt m hx.1 hx.2
    rw [List.drop_eq_getElem_cons hlt, okA]
    by_cases hbad : badA ins i ands[i]
    · rw [if_pos hbad] at hb ⊢
      exact ⟨fun h => (by cases h), fun _ => ⟨m, lp_ret (D_gates_Check_b1_ok hb)⟩⟩
    · rw [if_neg hbad] at hb ⊢
      obtain ⟨g1, g2⟩ := Check_loop hi hl hr k (i + 1) (setA m ands[i] (B true)) (by omega)
      refine ⟨fun h => ?_, fun h => ?_⟩
      · exact lp_next (D_gates_Check_b1_ok hb) (g1 h)
      · obtain ⟨m', g⟩ := g2 h
        exact ⟨m', lp_next (D_gates_Check_b1_ok hb) g⟩

theorem Check_eq (hr : RA ands) : callL pg 6 [graphV ins ands] gh = some (I (chkE ins ands), gh) := by
  by_cases h1 : ins < 0
  · refine callL_fn (fn := f_gates_Check) (s := ?s1) rfl rfl (D_gates_Check_0_ok ?h1) ?r1
    case h1 => simp [D_gates_Check_0, h1]; rfl
    case r1 =>
      have e : chkE ins ands = 3 := by unfold chkE; rw [if_pos (by omega)]
      simp [finish, results, f_gates_Check, resOfs, resOf, resOk, e]
  by_cases h2 : 1000 < ins
  · refine callL_fn (fn := f_gates_Check) (s := ?s2) rfl rfl (D_gates_Check_0_ok ?h2) ?r2
    case h2 => simp [D_gates_Check_0, h1, h2]; rfl
    case r2 =>
      have e : chkE ins ands = 3 := by unfold chkE; rw [if_pos (by omega)]
      simp [finish, results, f_gates_Check, resOfs, resOf, resOk, e]
  have hi : 0 ≤ ins ∧ ins ≤ 1000 := by omega
  by_cases h3 : 1000000 < ands.length
  · have h3' : (1000000 : Int) < (ands.length : Int) := by omega
    refine callL_fn (fn := f_gates_Check) (s := ?s3) rfl rfl (D_gates_Check_0_ok ?h3) ?r3
    case h3 => simp [D_gates_Check_0, h1, h2, h3']; rfl
    case r3 => simp [finish, results, f_gates_Check, resOfs, resOf, resOk, chkE, hi, h3]
  have h3' : ¬ (1000000 : Int) < (ands.length : Int) := by omega
  obtain ⟨g1, g2⟩ := Check_loop (gh := gh) hi (by omega) hr ands.length 0 [] (by omega)
  rw [List.drop_zero] at g1 g2
  unfold chkSt at g1 g2
  have hm0 : mapA [] = [] := rfl
  rw [hm0] at g1 g2
  simp only [Int.natCast_zero] at g1 g2
  cases hok : okA ins 0 ands with
  | false =>
    obtain ⟨m', g⟩ := g2 hok
    refine callL_fn (fn := f_gates_Check) (s := ?s4) rfl rfl (D_gates_Check_0_ok ?h4) ?r4
    case h4 => simp [D_gates_Check_0, h1, h2, h3', g]; rfl
    case r4 => simp [finish, results, f_gates_Check, resOfs, resOf, resOk, chkE, hi, h3, hok]
  | true =>
    have g := g1 hok
    obtain ⟨l1, l2⟩ := metA_len ands []
    simp only [List.length_nil, Nat.zero_add, List.map_nil, List.not_mem_nil, not_false_eq_true, implies_true, and_true] at l1 l2
    have hml : (mapA (metA ands [])).length = (metA ands []).length := by simp [mapA]
    by_cases hnd : ands.Nodup
    · have hlen := l2.2 hnd
      have hk := D_gates_Check_k1_ok (pg := pg) (gh := gh ++ [.map (mapA (metA ands []))]) (v3 := .mp gh.length) (xc0_0 := ins) (vc0_1 := .sl false 2 (ands.map andV)) (e := .ret) (s := ⟨[(2, I 0)], [], gh ++ [.map (mapA (metA ands []))]⟩)
        (by simp [D_gates_Check_k1, hml, hlen])
      refine callL_fn (fn := f_gates_Check) (s := ?s5) rfl rfl (D_gates_Check_0_ok ?h5) ?r5
      case h5 => simp [D_gates_Check_0, h1, h2, h3', g, hk]; rfl
      case r5 => simp [finish, results, f_gates_Check, resOfs, resOf, resOk, chkE, hi, h3, hok, hnd]
    · have hlen : (metA ands []).length < ands.length := by
        rcases Nat.lt_or_ge (metA ands []).length ands.length with h | h
        · exact h
        · exact absurd (l2.1 (by omega)) hnd
      have hk := D_gates_Check_k1_ok (pg := pg) (gh := gh ++ [.map (mapA (metA ands []))]) (v3 := .mp gh.length) (xc0_0 := ins) (vc0_1 := .sl false 2 (ands.map andV)) (e := .ret) (s := ⟨[(2, I 6)], [], gh ++ [.map (mapA (metA ands []))]⟩)
        (by simp [D_gates_Check_k1, hml, hlen])
      refine callL_fn (fn := f_gates_Check) (s := ?s6) rfl rfl (D_gates_Check_0_ok ?h6) ?r6
      case h6 => simp [D_gates_Check_0, h1, h2, h3', g, hk]; rfl
      case r6 => simp [finish, results, f_gates_Check, resOfs, resOf, resOk, chkE, hi, h3, hok, hnd]

/-- What a graph has that passes. -/
theorem chkE_zero (h : chkE ins ands = 0) : (0 ≤ ins ∧ ins ≤ 1000) ∧ ands.length ≤ 1000000 ∧ okA ins 0 ands = true ∧ ands.Nodup := by
  unfold chkE at h
  repeat' split at h
  all_goals first | (cases h; done) | skip
  rename_i h1 h2 h3 h4
  exact ⟨Classical.not_not.1 h1, by omega, h3, h4⟩

/-- How many nodes. -/
def nodesOf (ins : Int) (ands : List (Int × Int)) : Int := 1 + ins + ands.length

theorem Nodes_ok (hi : 0 ≤ ins ∧ ins ≤ 1000) (hl : ands.length ≤ 1000001) : callL pg 88 [graphV ins ands] gh = some (I (nodesOf ins ands), gh) := by
  rw [Nodes_eq, wrap_id (n := 1 + ins) (by omega) (by omega), wrap_id (by omega) (by omega)]; rfl

/-- Is it a literal? -/
def isLit (ins : Int) (ands : List (Int × Int)) (n : Int) : Bool := decide (0 ≤ n ∧ n < 2 * nodesOf ins ands)

theorem Is1_eq (hi : 0 ≤ ins ∧ ins ≤ 1000) (hl : ands.length ≤ 1000000) (n : Int) {b : Nat} (hb : gh[b]? = some (.cells [I ins, .sl false 2 (ands.map andV)])) : callL pg 85 [I n, .ptr true b 0] gh = some (B (!isLit ins ands n), gh) := by
  have hN : nodesOf ins ands = 1 + ins + ands.length := rfl
  by_cases h0 : n < 0
  · refine callL_fn (fn := f_gates_Is_1) (s := ?s1) rfl rfl (D_gates_Is_1_0_ok ?h1) ?r1
    case h1 => simp [D_gates_Is_1_0, h0]; rfl
    case r1 =>
      have : isLit ins ands n = false := by unfold isLit; rw [decide_eq_false_iff_not]; omega
      simp [finish, results, f_gates_Is_1, resOfs, resOf, resOk, this]
  · have ew : IntKind.i64.wrap (2 * nodesOf ins ands) = 2 * nodesOf ins ands := wrap_id (by omega) (by omega)
    have hN2 := Nodes_ok (gh := gh) hi (show ands.length ≤ 1000001 by omega)
    unfold graphV at hN2
    refine callL_fn (fn := f_gates_Is_1) (s := ?s2) rfl rfl (D_gates_Is_1_0_ok ?h2) ?r2
    case h2 => simp [D_gates_Is_1_0, h0, hb, hN2, ew]; rfl
    case r2 =>
      have : (!isLit ins ands n) = decide (2 * nodesOf ins ands ≤ n) := by
        unfold isLit
        by_cases h : 2 * nodesOf ins ands ≤ n
        · rw [decide_eq_true h, decide_eq_false (by omega)]; rfl
        · rw [decide_eq_false h, decide_eq_true (by omega)]; rfl
      simp [finish, results, f_gates_Is_1, resOfs, resOf, resOk, this]

theorem Is_eq (hi : 0 ≤ ins ∧ ins ≤ 1000) (hl : ands.length ≤ 1000000) {lits : List Int} (hs : Sz lits.length) : callL pg 47 [graphV ins ands, LI lits] gh = some (B (lits.all (isLit ins ands)), gh) := by
  have hc : ∀ x ∈ lits, callL pg 85 (I x :: [.ptr true gh.length 0]) (gh ++ [.cells [I ins, .sl false 2 (ands.map andV)]]) = some (B (!isLit ins ands x), gh ++ [.cells [I ins, .sl false 2 (ands.map andV)]]) :=
    fun x _ => Is1_eq hi hl x (by simp)
  have := ContainsFunc_eq (caps := [.ptr true gh.length 0]) hc (by simp) hs
  refine callL_fn (fn := f_gates_Is) (s := ?s1) rfl rfl (D_gates_Is_0_ok ?h1) ?r1
  case h1 => simp [D_gates_Is_0, this]; rfl
  case r1 =>
    have e : (!lits.any fun x => !isLit ins ands x) = lits.all (isLit ins ands) := by
      rw [List.not_any_eq_all_not]; simp
    simp [finish, results, f_gates_Is, resOfs, resOf, resOk, ← e]

end
end Go.Lw
end

/-! What the code of function cnf_Number comes to, piece by piece. Written by program (dprint.py). -/
section
set_option maxRecDepth 10000
set_option maxHeartbeats 4000000
namespace Go.Lw
open Go

def an_cnf_Number : Tr := (.node 9 (.ce (.int .i64)) (.node 5 (.ce (.int .i64)) (.node 1 (.ce (.int .i64)) (.node 0 (.ce (.int .i64)) .nil .nil) (.node 4 (.ce (.int .i64)) .nil .nil)) (.node 7 (.ce (.bool)) (.node 6 (.ce (.int .i64)) .nil .nil) (.node 8 (.ce (.int .i64)) .nil .nil))) (.node 13 (.ce (.int .i64)) (.node 11 (.ce (.int .i64)) (.node 10 (.ce (.int .i64)) .nil .nil) (.node 12 (.ce (.int .i64)) .nil .nil)) (.node 15 (.ce (.int .i64)) (.node 14 (.ce (.int .i64)) .nil .nil) (.node 16 (.ce (.int .i64)) .nil .nil))))

noncomputable def D_cnf_Number_0 (pg : Prg) (x0 : Int) (x1 : Int) (gh : List GObj) : Option (IExit × St) := gd (decide ((2 : Int) ≠ 0)) (
  br 7 ((Int.tmod x0 2) == 1) (gd (decide ((2 : Int) ≠ 0)) (some (.ret, ⟨[(4, (.int .i64 (IntKind.i64.wrap (0 - (IntKind.i64.wrap ((IntKind.i64.wrap (Int.tdiv x0 2)) + x1))))))], [], gh⟩))) (gd (decide ((2 : Int) ≠ 0)) (some (.ret, ⟨[(4, (.int .i64 (IntKind.i64.wrap ((IntKind.i64.wrap (Int.tdiv x0 2)) + x1))))], [], gh⟩))))

theorem D_cnf_Number_0_ok {pg : Prg} {gh : List GObj} {x0 : Int} {x1 : Int} {e : IExit} {s : St} (h : D_cnf_Number_0 pg x0 x1 gh = some (e, s)) : runL pg f_cnf_Number_0 ⟨[(0, (.int .i64 x0)), (1, (.int .i64 x1))], [], gh⟩ = some (e, s) :=
  runX_ok an_cnf_Number (Eq.trans (by kernel_rfl) h)

end Go.Lw
end

/-! What the code of function cnf_Maker_Add comes to, piece by piece. Written by program (dprint.py). -/
section
set_option maxRecDepth 10000
set_option maxHeartbeats 4000000
namespace Go.Lw
open Go

def an_cnf_Maker_Add : Tr := (.node 9 (.ce (.one)) (.node 4 (.ce (.gp)) (.node 1 (.ce (.one)) (.node 0 (.ce (.gp)) .nil .nil) .nil) (.node 5 (.ce (.gp)) .nil .nil)) (.node 11 (.ce (.one)) (.node 10 (.ce (.one)) .nil .nil) (.node 12 (.ce (.one)) .nil .nil)))

noncomputable def D_cnf_Maker_Add_0 (pg : Prg) (g0 : Nat) (o0 : Nat) (v1 : PV) (gh : List GObj) : Option (IExit × St) := 
  ob (ghCells gh g0) fun cs1 => ob (cs1[((o0 + 0) + 1)]?) fun v2 => isC (degr v1) (arK (degr (degr v1)) (lnK 1 (degr (degr v1)) (
  apX 1 24 v2 (.sl false 1 [(degr (degr v1))]) fun l3 => 
  ob (ghCells (List.set gh g0 (.cells (spliceAt cs1 ((o0 + 0) + 1) [degr1 v2]))) g0) fun cs4 => gb (stOk 1 ((o0 + 0) + 1) [(.sl true 1 l3)] cs4) (some (.normal, ⟨[], [], (List.set (List.set gh g0 (.cells (spliceAt cs1 ((o0 + 0) + 1) [degr1 v2]))) g0 (.cells (spliceAt cs4 ((o0 + 0) + 1) [(.sl true 1 l3)])))⟩)))))

theorem D_cnf_Maker_Add_0_ok {pg : Prg} {gh : List GObj} {g0 : Nat} {o0 : Nat} {v1 : PV} {e : IExit} {s : St} (h : D_cnf_Maker_Add_0 pg g0 o0 v1 gh = some (e, s)) : runL pg f_cnf_Maker_Add_0 ⟨[(0, (.ptr true g0 o0)), (1, v1)], [], gh⟩ = some (e, s) :=
  runX_ok an_cnf_Maker_Add (Eq.trans (by kernel_rfl) h)

end Go.Lw
end

/-! What the code of function cnf_Maker_Ands comes to, piece by piece. Written by program (dprint.py). -/
section
set_option maxRecDepth 10000
set_option maxHeartbeats 4000000
namespace Go.Lw
open Go

def an_cnf_Maker_Ands : Tr := (.node 29 (.ce (.int .i64)) (.node 15 (.ce (.bool)) (.node 9 (.ce (.int .i64)) (.node 2 (.ce (.int .i64)) (.node 1 (.agg [.int .i64, .any]) (.node 0 (.ce (.gp)) .nil .nil) .nil) (.node 8 (.ce (.int .i64)) (.node 6 (.ce (.int .i64)) .nil .nil) .nil)) (.node 13 (.ce (.int .i64)) (.node 12 (.ce (.one)) (.node 10 (.ce (.int .i64)) .nil .nil) .nil) (.node 14 (.ce (.int .i64)) .nil .nil))) (.node 23 (.ce (.int .i64)) (.node 20 (.ce (.int .i64)) (.node 18 (.agg [.int .i64, .int .i64]) (.node 16 (.ce (.int .i64)) .nil .nil) .nil) (.node 22 (.ce (.int .i64)) (.node 21 (.ce (.int .i64)) .nil .nil) .nil)) (.node 27 (.ce (.int .i64)) (.node 25 (.ce (.int .i64)) (.node 24 (.ce (.int .i64)) .nil .nil) .nil) (.node 28 (.ce (.int .i64)) .nil .nil)))) (.node 42 (.ce (.int .i64)) (.node 36 (.ce (.int .i64)) (.node 33 (.ce (.int .i64)) (.node 32 (.ce (.int .i64)) (.node 31 (.ce (.int .i64)) .nil .nil) .nil) (.node 35 (.ce (.int .i64)) (.node 34 (.ce (.gp)) .nil .nil) .nil)) (.node 40 (.ce (.gp)) (.node 38 (.ce (.one)) (.node 37 (.ce (.int .i64)) .nil .nil) .nil) (.node 41 (.ce (.int .i64)) .nil .nil))) (.node 49 (.ce (.int .i64)) (.node 46 (.ce (.gp)) (.node 44 (.ce (.one)) (.node 43 (.ce (.int .i64)) .nil .nil) .nil) (.node 48 (.ce (.int .i64)) (.node 47 (.ce (.int .i64)) .nil .nil) .nil)) (.node 52 (.ce (.one)) (.node 51 (.ce (.int .i64)) (.node 50 (.ce (.int .i64)) .nil .nil) .nil) (.node 54 (.ce (.int .i64)) .nil .nil)))))

noncomputable def D_cnf_Maker_Ands_b1 (pg : Prg) (g0 : Nat) (o0 : Nat) (x2 : Int) (v12 : PV) (x13 : Int) (x14 : Int) (xc0_0 : Int) (vc0_1 : PV) (gh : List GObj) : Option (IExit × St) := 
  br 15 (decide (x14 < x13)) (
  idX 2 none (degr v12) x14 fun p1 => 
  ldX [[(.int .i64 xc0_0), vc0_1]] gh true 2 (degr p1) fun v2 => unA 2 v2 fun c3 c4 => unI .i64 c3 fun n5 => unI .i64 c4 fun n6 => stK 2 v12 (stK 2 v12 (
  callR gh true (callL pg 90 [(.int .i64 n5), (.int .i64 x2)] gh) fun r7 gh8 => unI .i64 r7 fun n9 => 
  callR gh8 true (callL pg 90 [(.int .i64 n6), (.int .i64 x2)] gh8) fun r10 gh11 => unI .i64 r10 fun n12 => stK 1 v12 (
  callR gh11 false (callL pg 91 [(.ptr true g0 o0), (.sl false 1 [(.int .i64 (IntKind.i64.wrap (0 - (IntKind.i64.wrap ((IntKind.i64.wrap ((IntKind.i64.wrap (1 + xc0_0)) + x14)) + x2))))), (.int .i64 n9)])] gh11) fun r13 gh14 => stK 1 v12 (
  callR gh14 false (callL pg 91 [(.ptr true g0 o0), (.sl false 1 [(.int .i64 (IntKind.i64.wrap (0 - (IntKind.i64.wrap ((IntKind.i64.wrap ((IntKind.i64.wrap (1 + xc0_0)) + x14)) + x2))))), (.int .i64 n12)])] gh14) fun r15 gh16 => stK 1 v12 (
  callR gh16 false (callL pg 91 [(.ptr true g0 o0), (.sl false 1 [(.int .i64 (IntKind.i64.wrap ((IntKind.i64.wrap ((IntKind.i64.wrap (1 + xc0_0)) + x14)) + x2))), (.int .i64 (IntKind.i64.wrap (0 - n9))), (.int .i64 (IntKind.i64.wrap (0 - n12)))])] gh16) fun r17 gh18 => stK 1 v12 (stK 1 v12 (stK 1 v12 (some (.normal, ⟨[(0, (.ptr true g0 o0)), (2, (.int .i64 x2)), (4, (.ptr false 0 0)), (12, v12), (13, (.int .i64 x13)), (14, (.int .i64 (IntKind.i64.wrap (x14 + 1))))], [[(.int .i64 xc0_0), vc0_1]], gh18⟩)))))))))) (some ((.exit 0), ⟨[(0, (.ptr true g0 o0)), (2, (.int .i64 x2)), (4, (.ptr false 0 0)), (12, v12), (13, (.int .i64 x13)), (14, (.int .i64 x14)), (15, (.bool (decide (x14 < x13))))], [[(.int .i64 xc0_0), vc0_1]], gh⟩))

theorem D_cnf_Maker_Ands_b1_ok {pg : Prg} {gh : List GObj} {g0 : Nat} {o0 : Nat} {x2 : Int} {v12 : PV} {x13 : Int} {x14 : Int} {xc0_0 : Int} {vc0_1 : PV} {e : IExit} {s : St} (h : D_cnf_Maker_Ands_b1 pg g0 o0 x2 v12 x13 x14 xc0_0 vc0_1 gh = some (e, s)) : runL pg f_cnf_Maker_Ands_b1 ⟨[(0, (.ptr true g0 o0)), (2, (.int .i64 x2)), (4, (.ptr false 0 0)), (12, v12), (13, (.int .i64 x13)), (14, (.int .i64 x14))], [[(.int .i64 xc0_0), vc0_1]], gh⟩ = some (e, s) :=
  runX_ok an_cnf_Maker_Ands (Eq.trans (by kernel_rfl) h)

noncomputable def D_cnf_Maker_Ands_0 (pg : Prg) (g0 : Nat) (o0 : Nat) (x1_0 : Int) (v1_1 : PV) (x2 : Int) (gh : List GObj) : Option (IExit × St) := onK (degr1 v1_1) (isC (degr (degr1 v1_1)) (lenS (degr (degr (degr1 v1_1))) fun n1 => stK 1 (degr (degr1 v1_1)) (
  kR (runL pg f_cnf_Maker_Ands_l1 ⟨[(0, (.ptr true g0 o0)), (2, (.int .i64 x2)), (4, (.ptr false 0 0)), (12, (degr (degr1 v1_1))), (13, (.int .i64 (n1 : Int))), (14, (.int .i64 0))], [[(.int .i64 x1_0), (degr1 v1_1)]], gh⟩) (fun e s => some (e, s)))))

theorem D_cnf_Maker_Ands_0_ok {pg : Prg} {gh : List GObj} {g0 : Nat} {o0 : Nat} {x1_0 : Int} {v1_1 : PV} {x2 : Int} {e : IExit} {s : St} (h : D_cnf_Maker_Ands_0 pg g0 o0 x1_0 v1_1 x2 gh = some (e, s)) : runL pg f_cnf_Maker_Ands_0 ⟨[(0, (.ptr true g0 o0)), (1, (.agg [(.int .i64 x1_0), v1_1])), (2, (.int .i64 x2))], [], gh⟩ = some (e, s) :=
  runX_ok an_cnf_Maker_Ands (Eq.trans (by kernel_rfl) h)

end Go.Lw
end

/-! What the code of function cnf_Maker_Must comes to, piece by piece. Written by program (dprint.py). -/
section
set_option maxRecDepth 10000
set_option maxHeartbeats 4000000
namespace Go.Lw
open Go

def an_cnf_Maker_Must : Tr := (.node 10 (.ce (.int .i64)) (.node 6 (.ce (.int .i64)) (.node 1 (.ce (.int .i64)) (.node 0 (.ce (.gp)) .nil .nil) (.node 2 (.ce (.int .i64)) .nil .nil)) (.node 8 (.ce (.int .i64)) (.node 7 (.ce (.gp)) .nil .nil) (.node 9 (.ce (.int .i64)) .nil .nil))) (.node 15 (.ce (.bool)) (.node 13 (.ce (.bool)) (.node 11 (.ce (.one)) .nil .nil) (.node 14 (.ce (.bool)) .nil .nil)) (.node 17 (.ce (.gp)) (.node 16 (.ce (.bool)) .nil .nil) .nil)))

noncomputable def D_cnf_Maker_Must_0 (pg : Prg) (g0 : Nat) (o0 : Nat) (x1 : Int) (x2 : Int) (gh : List GObj) : Option (IExit × St) := 
  br 13 (x1 == 1) (some (.normal, ⟨[], [], gh⟩)) (
  br 15 (x1 == 0) (
  callR gh false (callL pg 91 [(.ptr true g0 o0), (.sl false 1 [])] gh) fun r1 gh2 => some (.normal, ⟨[], [], gh2⟩)) (
  callR gh true (callL pg 90 [(.int .i64 x1), (.int .i64 x2)] gh) fun r3 gh4 => unI .i64 r3 fun n5 => 
  callR gh4 false (callL pg 91 [(.ptr true g0 o0), (.sl false 1 [(.int .i64 n5)])] gh4) fun r6 gh7 => some (.normal, ⟨[], [], gh7⟩)))

theorem D_cnf_Maker_Must_0_ok {pg : Prg} {gh : List GObj} {g0 : Nat} {o0 : Nat} {x1 : Int} {x2 : Int} {e : IExit} {s : St} (h : D_cnf_Maker_Must_0 pg g0 o0 x1 x2 gh = some (e, s)) : runL pg f_cnf_Maker_Must_0 ⟨[(0, (.ptr true g0 o0)), (1, (.int .i64 x1)), (2, (.int .i64 x2))], [], gh⟩ = some (e, s) :=
  runX_ok an_cnf_Maker_Must (Eq.trans (by kernel_rfl) h)

end Go.Lw
end

/-! What the code of function cnf_one comes to, piece by piece. Written by program (dprint.py). -/
section
set_option maxRecDepth 10000
set_option maxHeartbeats 4000000
namespace Go.Lw
open Go

def an_cnf_one : Tr := (.node 6 (.ce (.int .i64)) (.node 2 (.ce (.gp)) (.node 1 (.ce (.one)) (.node 0 (.ce (.int .i64)) .nil .nil) .nil) (.node 5 (.ce (.one)) (.node 4 (.ce (.int .i64)) .nil .nil) .nil)) (.node 9 (.ce (.one)) (.node 8 (.ce (.one)) (.node 7 (.ce (.bool)) .nil .nil) .nil) (.node 10 (.ce (.bool)) .nil .nil)))

noncomputable def D_cnf_one_0 (pg : Prg) (x0 : Int) (v1 : PV) (gh : List GObj) : Option (IExit × St) := stK 0 v1 (isC (degr v1) (lenS (degr (degr v1)) fun n1 => stK 0 v1 (
  br 7 (decide (200 < (n1 : Int))) (some (.ret, ⟨[(4, (.int .i64 2))], [], (gh ++ [.cells [(.int .i64 x0)]])⟩)) (isC (degr v1) (arK (degr (degr v1)) (
  callR (gh ++ [.cells [(.int .i64 x0)]]) true (callL pg 86 [(degr (degr v1)), (.fn 113 [(.ptr true (List.length gh) 0)])] (gh ++ [.cells [(.int .i64 x0)]])) fun r2 gh3 => unB r2 fun b4 => 
  br 10 b4 (some (.ret, ⟨[(4, (.int .i64 5))], [], gh3⟩)) (some (.ret, ⟨[(4, (.int .i64 0))], [], gh3⟩))))))))

theorem D_cnf_one_0_ok {pg : Prg} {gh : List GObj} {x0 : Int} {v1 : PV} {e : IExit} {s : St} (h : D_cnf_one_0 pg x0 v1 gh = some (e, s)) : runL pg f_cnf_one_0 ⟨[(0, (.int .i64 x0)), (1, v1)], [], gh⟩ = some (e, s) :=
  runX_ok an_cnf_one (Eq.trans (by kernel_rfl) h)

end Go.Lw
end

/-! What the code of function cnf_one_1 comes to, piece by piece. Written by program (dprint.py). -/
section
set_option maxRecDepth 10000
set_option maxHeartbeats 4000000
namespace Go.Lw
open Go

def an_cnf_one_1 : Tr := (.node 9 (.ce (.bool)) (.node 5 (.ce (.bool)) (.node 3 (.ce (.bool)) (.node 1 (.ce (.gp)) (.node 0 (.ce (.int .i64)) .nil .nil) .nil) (.node 4 (.ce (.int .i64)) .nil .nil)) (.node 7 (.ce (.int .i64)) (.node 6 (.ce (.bool)) .nil .nil) (.node 8 (.ce (.int .i64)) .nil .nil))) (.node 13 (.ce (.int .i64)) (.node 11 (.ce (.bool)) (.node 10 (.ce (.bool)) .nil .nil) (.node 12 (.ce (.int .i64)) .nil .nil)) (.node 15 (.ce (.bool)) (.node 14 (.ce (.int .i64)) .nil .nil) (.node 16 (.ce (.bool)) .nil .nil))))

noncomputable def D_cnf_one_1_0 (pg : Prg) (x0 : Int) (g1 : Nat) (o1 : Nat) (gh : List GObj) : Option (IExit × St) := 
  br 6 (x0 == 0) (some (.ret, ⟨[(3, (.bool true))], [], gh⟩)) (
  ob (ghCells gh g1) fun cs1 => 
  ob (grab false 1 o1 cs1) fun v2 => unI .i64 (degr v2) fun n3 => 
  br 11 (decide (n3 < x0)) (some (.ret, ⟨[(3, (.bool true))], [], gh⟩)) (
  ob (ghCells gh g1) fun cs4 => 
  ob (grab false 1 o1 cs4) fun v5 => unI .i64 (degr v5) fun n6 => some (.ret, ⟨[(3, (.bool (decide (x0 < (IntKind.i64.wrap (0 - n6))))))], [], gh⟩)))

theorem D_cnf_one_1_0_ok {pg : Prg} {gh : List GObj} {x0 : Int} {g1 : Nat} {o1 : Nat} {e : IExit} {s : St} (h : D_cnf_one_1_0 pg x0 g1 o1 gh = some (e, s)) : runL pg f_cnf_one_1_0 ⟨[(0, (.int .i64 x0)), (1, (.ptr true g1 o1))], [], gh⟩ = some (e, s) :=
  runX_ok an_cnf_one_1 (Eq.trans (by kernel_rfl) h)

end Go.Lw
end

/-! What the code of function cnf_Check comes to, piece by piece. Written by program (dprint.py). -/
section
set_option maxRecDepth 10000
set_option maxHeartbeats 4000000
namespace Go.Lw
open Go

def an_cnf_Check : Tr := (.node 17 (.ce (.bool)) (.node 9 (.ce (.bool)) (.node 5 (.ce (.int .i64)) (.node 2 (.ce (.int .i64)) (.node 0 (.agg [.int .i64, .any]) .nil .nil) (.node 4 (.ce (.one)) .nil .nil)) (.node 8 (.ce (.bool)) (.node 7 (.ce (.int .i64)) .nil .nil) .nil)) (.node 13 (.ce (.bool)) (.node 12 (.ce (.bool)) (.node 11 (.ce (.int .i64)) .nil .nil) .nil) (.node 16 (.ce (.int .i64)) (.node 15 (.ce (.one)) .nil .nil) .nil))) (.node 27 (.ce (.one)) (.node 22 (.ce (.bool)) (.node 20 (.ce (.int .i64)) (.node 19 (.ce (.one)) .nil .nil) (.node 21 (.ce (.int .i64)) .nil .nil)) (.node 26 (.ce (.int .i64)) (.node 24 (.ce (.one)) .nil .nil) .nil)) (.node 30 (.ce (.bool)) (.node 29 (.ce (.int .i64)) (.node 28 (.ce (.int .i64)) .nil .nil) .nil) (.node 32 (.ce (.int .i64)) (.node 31 (.ce (.int .i64)) .nil .nil) .nil))))

noncomputable def D_cnf_Check_b1 (pg : Prg) (v19 : PV) (x20 : Int) (x21 : Int) (xc0_0 : Int) (vc0_1 : PV) (gh : List GObj) : Option (IExit × St) := 
  br 22 (decide (x21 < x20)) (
  idX 1 none (degr v19) x21 fun p1 => 
  ldX [[(.int .i64 xc0_0), vc0_1]] gh false 1 (degr p1) fun v2 => isC v2 (stK 1 v2 (stK 1 v19 (isC (degr v2) (arK (degr (degr v2)) (
  callR gh true (callL pg 94 [(.int .i64 xc0_0), (degr (degr v2))] gh) fun r3 gh4 => unI .i64 r3 fun n5 => stK 1 v19 (stK 1 v19 (
  br 30 (n5 != 0) (some (.ret, ⟨[(2, (.int .i64 n5))], [], gh4⟩)) (stK 1 v19 (stK 1 v19 (some (.normal, ⟨[(1, (.ptr false 0 0)), (19, v19), (20, (.int .i64 x20)), (21, (.int .i64 (IntKind.i64.wrap (x21 + 1))))], [[(.int .i64 xc0_0), vc0_1]], gh4⟩)))))))))))) (some ((.exit 0), ⟨[(1, (.ptr false 0 0)), (19, v19), (20, (.int .i64 x20)), (21, (.int .i64 x21)), (22, (.bool (decide (x21 < x20))))], [[(.int .i64 xc0_0), vc0_1]], gh⟩))

theorem D_cnf_Check_b1_ok {pg : Prg} {gh : List GObj} {v19 : PV} {x20 : Int} {x21 : Int} {xc0_0 : Int} {vc0_1 : PV} {e : IExit} {s : St} (h : D_cnf_Check_b1 pg v19 x20 x21 xc0_0 vc0_1 gh = some (e, s)) : runL pg f_cnf_Check_b1 ⟨[(1, (.ptr false 0 0)), (19, v19), (20, (.int .i64 x20)), (21, (.int .i64 x21))], [[(.int .i64 xc0_0), vc0_1]], gh⟩ = some (e, s) :=
  runX_ok an_cnf_Check (Eq.trans (by kernel_rfl) h)

noncomputable def D_cnf_Check_k1 (pg : Prg)  (gh : List GObj) : Option (IExit × St) := some (.ret, ⟨[(2, (.int .i64 0))], [], gh⟩)

theorem D_cnf_Check_k1_ok {pg : Prg} {gh : List GObj}  {e : IExit} {s : St} (h : D_cnf_Check_k1 pg  gh = some (e, s)) : runL pg f_cnf_Check_k1 ⟨[], [], gh⟩ = some (e, s) :=
  runX_ok an_cnf_Check (Eq.trans (by kernel_rfl) h)

noncomputable def D_cnf_Check_0 (pg : Prg) (x0_0 : Int) (v0_1 : PV) (gh : List GObj) : Option (IExit × St) := onK (degr1 v0_1) (
  br 9 (decide (x0_0 < 0)) (some (.ret, ⟨[(2, (.int .i64 3))], [], gh⟩)) (
  br 13 (decide (200000 < x0_0)) (some (.ret, ⟨[(2, (.int .i64 3))], [], gh⟩)) (isC (degr (degr1 v0_1)) (lenS (degr (degr (degr1 v0_1))) fun n1 => 
  br 17 (decide (800000 < (n1 : Int))) (some (.ret, ⟨[(2, (.int .i64 2))], [], gh⟩)) (isC (degr (degr1 v0_1)) (lenS (degr (degr (degr1 v0_1))) fun n2 => stK 1 (degr (degr1 v0_1)) (
  kR (runL pg f_cnf_Check_l1 ⟨[(1, (.ptr false 0 0)), (19, (degr (degr1 v0_1))), (20, (.int .i64 (n2 : Int))), (21, (.int .i64 0))], [[(.int .i64 x0_0), (degr1 v0_1)]], gh⟩) (fun e s => nx e s (fun e s => some (e, s)) fun s => kR (runL pg f_cnf_Check_k1 s) (fun e s => some (e, s))))))))))

theorem D_cnf_Check_0_ok {pg : Prg} {gh : List GObj} {x0_0 : Int} {v0_1 : PV} {e : IExit} {s : St} (h : D_cnf_Check_0 pg x0_0 v0_1 gh = some (e, s)) : runL pg f_cnf_Check_0 ⟨[(0, (.agg [(.int .i64 x0_0), v0_1]))], [], gh⟩ = some (e, s) :=
  runX_ok an_cnf_Check (Eq.trans (by kernel_rfl) h)

end Go.Lw
end

/-! What the code of function cnf_Done comes to, piece by piece. Written by program (dprint.py). -/
section
set_option maxRecDepth 10000
set_option maxHeartbeats 4000000
namespace Go.Lw
open Go

def an_cnf_Done : Tr := (.node 7 (.ce (.int .i64)) (.node 4 (.ce (.int .i64)) (.node 3 (.ce (.int .i64)) (.node 0 (.agg [.int .i64, .any]) .nil .nil) .nil) (.node 6 (.ce (.int .i64)) (.node 5 (.agg [.int .i64, .any]) .nil .nil) .nil)) (.node 10 (.ce (.int .i64)) (.node 9 (.agg [.int .i64, .any]) (.node 8 (.ce (.bool)) .nil .nil) .nil) (.node 11 (.agg [.int .i64, .any]) .nil .nil)))

noncomputable def D_cnf_Done_0 (pg : Prg) (x0_0 : Int) (v0_1 : PV) (gh : List GObj) : Option (IExit × St) := onK (degr1 v0_1) (onK (degr1 (degr1 (degr1 v0_1))) (
  callR gh true (callL pg 59 [(.agg [(.int .i64 x0_0), (degr1 (degr1 (degr1 v0_1)))])] gh) fun r1 gh2 => unI .i64 r1 fun n3 => 
  br 8 (n3 != 0) (some (.ret, ⟨[(2, (.ptr false 1 0)), (3, (.int .i64 n3))], [[(.int .i64 x0_0), (degr1 v0_1)], [(.int .i64 0), (.sl true 1 [])]], gh2⟩)) (onK (degr1 (degr1 v0_1)) (some (.ret, ⟨[(2, (.ptr false 1 0)), (3, (.int .i64 0))], [[(.int .i64 x0_0), (degr1 v0_1)], [(.int .i64 x0_0), (degr1 (degr1 v0_1))]], gh2⟩)))))

theorem D_cnf_Done_0_ok {pg : Prg} {gh : List GObj} {x0_0 : Int} {v0_1 : PV} {e : IExit} {s : St} (h : D_cnf_Done_0 pg x0_0 v0_1 gh = some (e, s)) : runL pg f_cnf_Done_0 ⟨[(0, (.agg [(.int .i64 x0_0), v0_1]))], [], gh⟩ = some (e, s) :=
  runX_ok an_cnf_Done (Eq.trans (by kernel_rfl) h)

end Go.Lw
end

/-! What the code of function cnf_Of comes to, piece by piece. Written by program (dprint.py). -/
section
set_option maxRecDepth 10000
set_option maxHeartbeats 4000000
namespace Go.Lw
open Go

def an_cnf_Of : Tr := (.node 25 (.ce (.int .i64)) (.node 13 (.ce (.bool)) (.node 7 (.ce (.gp)) (.node 5 (.ce (.int .i64)) (.node 1 (.ce (.one)) (.node 0 (.agg [.int .i64, .any]) .nil .nil) .nil) (.node 6 (.ce (.int .i64)) .nil .nil)) (.node 11 (.ce (.int .i64)) (.node 10 (.agg [.int .i64, .any]) (.node 9 (.ce (.int .i64)) .nil .nil) .nil) (.node 12 (.ce (.int .i64)) .nil .nil))) (.node 18 (.ce (.bool)) (.node 16 (.agg [.int .i64, .any]) (.node 15 (.ce (.int .i64)) (.node 14 (.agg [.int .i64, .any]) .nil .nil) .nil) (.node 17 (.ce (.one)) .nil .nil)) (.node 22 (.ce (.int .i64)) (.node 20 (.agg [.int .i64, .any]) (.node 19 (.ce (.bool)) .nil .nil) .nil) (.node 24 (.ce (.one)) .nil .nil)))) (.node 36 (.ce (.bool)) (.node 30 (.ce (.gp)) (.node 28 (.agg [.int .i64, .any]) (.node 27 (.agg [.int .i64, .any]) (.node 26 (.ce (.int .i64)) .nil .nil) .nil) (.node 29 (.ce (.gp)) .nil .nil)) (.node 34 (.ce (.int .i64)) (.node 33 (.ce (.one)) (.node 31 (.agg [.int .i64, .any]) .nil .nil) .nil) (.node 35 (.ce (.int .i64)) .nil .nil))) (.node 43 (.ce (.gp)) (.node 40 (.ce (.int .i64)) (.node 39 (.ce (.gp)) (.node 38 (.ce (.int .i64)) .nil .nil) .nil) (.node 42 (.ce (.int .i64)) .nil .nil)) (.node 48 (.agg [.int .i64, .any]) (.node 47 (.tup 2) (.node 46 (.agg [.int .i64, .any]) .nil .nil) .nil) (.node 49 (.ce (.int .i64)) .nil .nil)))))

noncomputable def D_cnf_Of_b1 (pg : Prg) (g7 : Nat) (o7 : Nat) (v33 : PV) (x34 : Int) (x35 : Int) (xc0_0 : Int) (vc0_1 : PV) (xc1_0 : Int) (vc1_1 : PV) (gh : List GObj) : Option (IExit × St) := 
  br 36 (decide (x35 < x34)) (
  idX 1 none (degr v33) x35 fun p1 => 
  ldX [[(.int .i64 xc0_0), vc0_1], [(.int .i64 xc1_0), vc1_1]] gh false 1 (degr p1) fun v2 => unI .i64 v2 fun n3 => stK 2 v33 (
  callR gh false (callL pg 54 [(.ptr true g7 o7), (.int .i64 n3), (.int .i64 0)] gh) fun r4 gh5 => stK 2 v33 (stK 2 v33 (stK 2 v33 (some (.normal, ⟨[(4, (.ptr false 1 0)), (7, (.ptr true g7 o7)), (33, v33), (34, (.int .i64 x34)), (35, (.int .i64 (IntKind.i64.wrap (x35 + 1))))], [[(.int .i64 xc0_0), vc0_1], [(.int .i64 xc1_0), vc1_1]], gh5⟩)))))) (some ((.exit 0), ⟨[(4, (.ptr false 1 0)), (7, (.ptr true g7 o7)), (33, v33), (34, (.int .i64 x34)), (35, (.int .i64 x35)), (36, (.bool (decide (x35 < x34))))], [[(.int .i64 xc0_0), vc0_1], [(.int .i64 xc1_0), vc1_1]], gh⟩))

theorem D_cnf_Of_b1_ok {pg : Prg} {gh : List GObj} {g7 : Nat} {o7 : Nat} {v33 : PV} {x34 : Int} {x35 : Int} {xc0_0 : Int} {vc0_1 : PV} {xc1_0 : Int} {vc1_1 : PV} {e : IExit} {s : St} (h : D_cnf_Of_b1 pg g7 o7 v33 x34 x35 xc0_0 vc0_1 xc1_0 vc1_1 gh = some (e, s)) : runL pg f_cnf_Of_b1 ⟨[(4, (.ptr false 1 0)), (7, (.ptr true g7 o7)), (33, v33), (34, (.int .i64 x34)), (35, (.int .i64 x35))], [[(.int .i64 xc0_0), vc0_1], [(.int .i64 xc1_0), vc1_1]], gh⟩ = some (e, s) :=
  runX_ok an_cnf_Of (Eq.trans (by kernel_rfl) h)

noncomputable def D_cnf_Of_k1 (pg : Prg) (g7 : Nat) (o7 : Nat) (xc0_0 : Int) (vc0_1 : PV) (xc1_0 : Int) (vc1_1 : PV) (gh : List GObj) : Option (IExit × St) := 
  ob (ghCells gh g7) fun cs1 => 
  ob (grab true 2 (o7 + 0) cs1) fun v2 => unA 2 (degr v2) fun c3 c4 => unI .i64 c3 fun n5 => onK (degr1 c4) (
  callR gh true (callL pg 55 [(.agg [(.int .i64 n5), (degr1 c4)])] gh) fun r6 gh7 => unT 2 r6 fun r8 r9 => unA 2 (degr1 r8) fun c10 c11 => unI .i64 c10 fun n12 => unI .i64 (degr1 r9) fun n13 => onK c11 (some (.ret, ⟨[(4, (.ptr false 1 0)), (5, (.int .i64 n13))], [[(.int .i64 xc0_0), vc0_1], [(.int .i64 n12), c11]], gh7⟩)))

theorem D_cnf_Of_k1_ok {pg : Prg} {gh : List GObj} {g7 : Nat} {o7 : Nat} {xc0_0 : Int} {vc0_1 : PV} {xc1_0 : Int} {vc1_1 : PV} {e : IExit} {s : St} (h : D_cnf_Of_k1 pg g7 o7 xc0_0 vc0_1 xc1_0 vc1_1 gh = some (e, s)) : runL pg f_cnf_Of_k1 ⟨[(4, (.ptr false 1 0)), (7, (.ptr true g7 o7))], [[(.int .i64 xc0_0), vc0_1], [(.int .i64 xc1_0), vc1_1]], gh⟩ = some (e, s) :=
  runX_ok an_cnf_Of (Eq.trans (by kernel_rfl) h)

noncomputable def D_cnf_Of_0 (pg : Prg) (x0_0 : Int) (v0_1 : PV) (v1 : PV) (gh : List GObj) : Option (IExit × St) := onK (degr1 v0_1) (stK 2 v1 (onK (degr1 (degr1 (degr1 v0_1))) (
  callR gh true (callL pg 6 [(.agg [(.int .i64 x0_0), (degr1 (degr1 (degr1 v0_1)))])] gh) fun r1 gh2 => unI .i64 r1 fun n3 => stK 2 v1 (stK 2 v1 (
  br 13 (n3 != 0) (some (.ret, ⟨[(4, (.ptr false 1 0)), (5, (.int .i64 n3))], [[(.int .i64 x0_0), (degr1 v0_1)], [(.int .i64 0), (.sl true 1 [])]], gh2⟩)) (isC (degr v1) (onK (degr1 (degr1 (degr1 v0_1))) (arK (degr (degr v1)) (
  callR gh2 true (callL pg 47 [(.agg [(.int .i64 x0_0), (degr1 (degr1 (degr1 v0_1)))]), (degr (degr v1))] gh2) fun r4 gh5 => unB r4 fun b6 => stK 2 v1 (
  br 19 (!b6) (some (.ret, ⟨[(4, (.ptr false 1 0)), (5, (.int .i64 5))], [[(.int .i64 x0_0), (degr1 v0_1)], [(.int .i64 0), (.sl true 1 [])]], gh5⟩)) (isC (degr (degr1 v0_1)) (lenS (degr (degr (degr1 v0_1))) fun n7 => stK 2 v1 (onK (degr1 (degr1 (degr1 v0_1))) (
  callR (gh5 ++ [.cells [(.int .i64 (IntKind.i64.wrap (x0_0 + (n7 : Int)))), (.sl true 1 [])]]) false (callL pg 53 [(.ptr true (List.length gh5) 0), (.agg [(.int .i64 x0_0), (degr1 (degr1 (degr1 v0_1)))]), (.int .i64 0)] (gh5 ++ [.cells [(.int .i64 (IntKind.i64.wrap (x0_0 + (n7 : Int)))), (.sl true 1 [])]])) fun r8 gh9 => stK 2 v1 (isC (degr v1) (lenS (degr (degr v1)) fun n10 => stK 2 (degr v1) (
  kR (runL pg f_cnf_Of_l1 ⟨[(4, (.ptr false 1 0)), (7, (.ptr true (List.length gh5) 0)), (33, (degr v1)), (34, (.int .i64 (n10 : Int))), (35, (.int .i64 0))], [[(.int .i64 x0_0), (degr1 v0_1)], [(.int .i64 0), (.sl true 1 [])]], gh9⟩) (fun e s => nx e s (fun e s => some (e, s)) fun s => kR (runL pg f_cnf_Of_k1 s) (fun e s => some (e, s))))))))))))))))))))

theorem D_cnf_Of_0_ok {pg : Prg} {gh : List GObj} {x0_0 : Int} {v0_1 : PV} {v1 : PV} {e : IExit} {s : St} (h : D_cnf_Of_0 pg x0_0 v0_1 v1 gh = some (e, s)) : runL pg f_cnf_Of_0 ⟨[(0, (.agg [(.int .i64 x0_0), v0_1])), (1, v1)], [], gh⟩ = some (e, s) :=
  runX_ok an_cnf_Of (Eq.trans (by kernel_rfl) h)

end Go.Lw
end

/-! Clauses: what the program makes and checks. -/
section
namespace Go.Lw
open Go

/-- Clauses. -/
def clV (vars : Int) (cls : List (List Int)) : PV := .agg [I vars, .sl false 1 (cls.map fun l => LI l)]

theorem noGs_ints (l : List Int) : noGs (l.map I) = true := by
  induction l with
  | nil => rfl
  | cons x l ih => simp [ih]

theorem noGs_lists (l : List (List Int)) : noGs (l.map fun l => LI l) = true := by
  induction l with
  | nil => rfl
  | cons x l ih => simp [ih, noGs_ints]

/-- The number of a literal. -/
def numE (x more : Int) : Int :=
  if Int.tmod x 2 = 1 then IntKind.i64.wrap (-IntKind.i64.wrap (IntKind.i64.wrap (Int.tdiv x 2) + more)) else IntKind.i64.wrap (IntKind.i64.wrap (Int.tdiv x 2) + more)

theorem Number_eq (x more : Int) (gh : List GObj) : callL pg 90 [I x, I more] gh = some (I (numE x more), gh) := by
  by_cases h : Int.tmod x 2 = 1
  · refine callL_fn (fn := f_cnf_Number) (s := ?s1) rfl rfl (D_cnf_Number_0_ok ?h1) ?r1
    case h1 => simp [D_cnf_Number_0, h]; rfl
    case r1 => simp [finish, results, f_cnf_Number, resOfs, resOf, resOk, numE, h]
  · refine callL_fn (fn := f_cnf_Number) (s := ?s2) rfl rfl (D_cnf_Number_0_ok ?h2) ?r2
    case h2 => simp [D_cnf_Number_0, h]; rfl
    case r2 => simp [finish, results, f_cnf_Number, resOfs, resOf, resOk, numE, h]

/-- A maker of clauses behind what there is. -/
def mkC (gh : List GObj) (vars : Int) (cls : List (List Int)) : List GObj := gh ++ [.cells [I vars, .sl true 1 (cls.map fun l => LI l)]]

section
variable {gh : List GObj} {x y : GObj}
theorem g1_get : (gh ++ [x])[gh.length]? = some x := by simp
theorem g1_set : (gh ++ [x]).set gh.length y = gh ++ [y] := by simp
end

theorem Add_eq {gh : List GObj} {vars : Int} {cls : List (List Int)} {c : List Int} (hs : cls.length ≤ 5000000) : callL pg 91 [.ptr true gh.length 0, LI c] (mkC gh vars cls) = some (.tup [], mkC gh vars (cls ++ [c])) := by
  have hmx : (cls.length + 1) * 24 ≤ maxBytes := by
    have : maxBytes = 140737488355328 := rfl
    omega
  have h1 := D_cnf_Maker_Add_0_ok (pg := pg) (gh := mkC gh vars cls) (g0 := gh.length) (o0 := 0) (v1 := LI c) (e := .normal) (s := ⟨[], [], mkC gh vars (cls ++ [c])⟩) (by
    simp [D_cnf_Maker_Add_0, mkC, hmx, spliceAt])
  rw [callL_code (fn := f_cnf_Maker_Add) rfl rfl h1]
  simp [finish, results, f_cnf_Maker_Add, resOfs, resOk]

def nOf (ins more : Int) (i : Nat) : Int := IntKind.i64.wrap (IntKind.i64.wrap (IntKind.i64.wrap (1 + ins) + (i : Int)) + more)
def negI (x : Int) : Int := IntKind.i64.wrap (-x)

/-- The clauses of an And. -/
def andC (ins more : Int) (i : Nat) (x : Int × Int) : List (List Int) :=
  [[negI (nOf ins more i), numE x.1 more], [negI (nOf ins more i), numE x.2 more], [nOf ins more i, negI (numE x.1 more), negI (numE x.2 more)]]

/-- The clauses of Ands from place i on. -/
def andsC (ins more : Int) : Nat → List (Int × Int) → List (List Int)
  | _, [] => []
  | i, x :: l => andC ins more i x ++ andsC ins more (i + 1) l

theorem andsC_len (ins more : Int) : ∀ (i : Nat) (l : List (Int × Int)), (andsC ins more i l).length = 3 * l.length
  | _, [] => rfl
  | i, x :: l => by
    rw [andsC, List.length_append, andsC_len ins more (i + 1) l]
    simp [andC]; omega

section
variable {ins : Int} {ands : List (Int × Int)} {gh : List GObj}

def anSt (gh : List GObj) (ins : Int) (ands : List (Int × Int)) (more vars : Int) (cls : List (List Int)) (i : Nat) : St :=
  ⟨[(0, .ptr true gh.length 0), (2, I more), (4, .ptr false 0 0), (12, .sl false 2 (ands.map andV)), (13, I ands.length), (14, I (i : Int))], [[I ins, .sl false 2 (ands.map andV)]], mkC gh vars cls⟩

theorem Ands_b1 {more vars : Int} {cls : List (List Int)} {i : Nat} (hlt : i < ands.length) (hl : ands.length ≤ 1000000) (hs : cls.length ≤ 4000000) :
    D_cnf_Maker_Ands_b1 pg gh.length 0 more (.sl false 2 (ands.map andV)) ands.length i ins (.sl false 2 (ands.map andV)) (mkC gh vars cls) = some (.normal, anSt gh ins ands more vars (cls ++ andC ins more i ands[i]) (i + 1)) := by
  have e2 : IntKind.i64.wrap ((i : Int) + 1) = ((i + 1 : Nat) : Int) := by rw [wrap_id (by omega) (by omega)]; omega
  have hx : (ands.map andV)[i]? = some (.agg [I ands[i].1, I ands[i].2]) := by simp [List.getElem?_eq_getElem hlt, andV]
  generalize hy : ands[i] = x at *
  obtain ⟨a, b⟩ := x
  have hltI : (i : Int) < (ands.length : Int) := by omega
  have hn1 := Number_eq a more (mkC gh vars cls)
  have hn2 := Number_eq b more (mkC gh vars cls)
  have ha1 := Add_eq (gh := gh) (vars := vars) (cls := cls) (c := [negI (nOf ins more i), numE a more]) (by omega)
  have ha2 := Add_eq (gh := gh) (vars := vars) (cls := cls ++ [[negI (nOf ins more i), numE a more]]) (c := [negI (nOf ins more i), numE b more]) (by simp; omega)
  have ha3 := Add_eq (gh := gh) (vars := vars) (cls := (cls ++ [[negI (nOf ins more i), numE a more]]) ++ [[negI (nOf ins more i), numE b more]]) (c := [nOf ins more i, negI (numE a more), negI (numE b more)]) (by simp; omega)
  have e3 : ((cls ++ [[negI (nOf ins more i), numE a more]]) ++ [[negI (nOf ins more i), numE b more]]) ++ [[nOf ins more i, negI (numE a more), negI (numE b more)]] = cls ++ andC ins more i (a, b) := by simp [andC]
  rw [e3] at ha3
  simp only at hx
  generalize hN : nOf ins more i = N at *
  generalize hA : numE a more = A at *
  generalize hB : numE b more = B' at *
  unfold nOf at hN
  simp only [LI, List.map_cons, List.map_nil, negI] at ha1 ha2 ha3
  unfold anSt
  generalize mkC gh vars (cls ++ andC ins more i (a, b)) = g3 at *
  generalize mkC gh vars (cls ++ [[IntKind.i64.wrap (-N), A]] ++ [[IntKind.i64.wrap (-N), B']]) = g2 at *
  generalize mkC gh vars (cls ++ [[IntKind.i64.wrap (-N), A]]) = g1 at *
  generalize mkC gh vars cls = g0 at *
  simp [D_cnf_Maker_Ands_b1, hltI, hx, hn1, hn2, hN, ha1, ha2, ha3, e2, -List.getElem?_map]

theorem Ands_loop {more vars : Int} (hl : ands.length ≤ 1000000) : ∀ k i (cls : List (List Int)), i + k = ands.length → cls.length + 3 * k ≤ 4000000 →
    runL pg f_cnf_Maker_Ands_l1 (anSt gh ins ands more vars cls i) = some (.normal, ⟨[], [], mkC gh vars (cls ++ andsC ins more i (ands.drop i))⟩)
  | 0, i, cls, h, _ => by
    rw [List.drop_eq_nil_of_le (by omega)]
    have hlt : ¬ (i : Int) < (ands.length : Int) := by omega
    refine (lp_exit (s1 := ?s1) (D_cnf_Maker_Ands_b1_ok ?h1)).trans ?r1
    case h1 => simp only [D_cnf_Maker_Ands_b1, decide_eq_false hlt, br_false]; rfl
    case r1 => simp [keep, andsC]
  | k + 1, i, cls, h, hs => by
    have hlt : i < ands.length := by omega
    refine lp_next (D_cnf_Maker_Ands_b1_ok (Ands_b1 hlt hl (by omega))) ?_
    rw [List.drop_eq_getElem_cons hlt, andsC, ← List.append_assoc]
    exact Ands_loop hl k (i + 1) _ (by omega) (by simp [andC]; omega)

theorem Ands_eq {more vars : Int} (hl : ands.length ≤ 1000000) : callL pg 53 [.ptr true gh.length 0, graphV ins ands, I more] (mkC gh vars []) = some (.tup [], mkC gh vars (andsC ins more 0 ands)) := by
  have h := Ands_loop (gh := gh) (ins := ins) (more := more) (vars := vars) hl ands.length 0 [] (by omega) (by simp; omega)
  rw [List.drop_zero, List.nil_append] at h
  unfold anSt at h
  simp only [Int.natCast_zero] at h
  generalize mkC gh vars (andsC ins more 0 ands) = g1 at *
  generalize mkC gh vars [] = g0 at *
  have h1 := D_cnf_Maker_Ands_0_ok (pg := pg) (gh := g0) (g0 := gh.length) (o0 := 0) (x1_0 := ins) (v1_1 := .sl false 2 (ands.map andV)) (x2 := more) (e := .normal) (s := ⟨[], [], g1⟩) (by
    simp [D_cnf_Maker_Ands_0, h])
  rw [callL_code (fn := f_cnf_Maker_Ands) rfl rfl h1]
  simp [finish, results, f_cnf_Maker_Ands, resOfs, resOk]

/-- The clauses of a root. -/
def mustC (r more : Int) : List (List Int) := if r = 1 then [] else if r = 0 then [[]] else [[numE r more]]

theorem mustC_len (r more : Int) : (mustC r more).length ≤ 1 := by
  unfold mustC; split
  · simp
  · split <;> simp

theorem Must_eq {r more vars : Int} {cls : List (List Int)} (hs : cls.length ≤ 5000000) : callL pg 54 [.ptr true gh.length 0, I r, I more] (mkC gh vars cls) = some (.tup [], mkC gh vars (cls ++ mustC r more)) := by
  have h1 : runL pg f_cnf_Maker_Must_0 ⟨[(0, .ptr true gh.length 0), (1, I r), (2, I more)], [], mkC gh vars cls⟩ = some (.normal, ⟨[], [], mkC gh vars (cls ++ mustC r more)⟩) := by
    refine D_cnf_Maker_Must_0_ok ?_
    by_cases h1 : r = 1
    · simp [D_cnf_Maker_Must_0, h1, mustC]
    by_cases h0 : r = 0
    · have ha := Add_eq (gh := gh) (vars := vars) (cls := cls) (c := []) hs
      simp only [LI, List.map_nil] at ha
      simp [D_cnf_Maker_Must_0, h0, mustC, ha]
    · have hn := Number_eq r more (mkC gh vars cls)
      have ha := Add_eq (gh := gh) (vars := vars) (cls := cls) (c := [numE r more]) hs
      simp only [LI, List.map_cons, List.map_nil] at ha
      simp [D_cnf_Maker_Must_0, h1, h0, mustC, hn, ha]
  rw [callL_code (fn := f_cnf_Maker_Must) rfl rfl h1]
  simp [finish, results, f_cnf_Maker_Must, resOfs, resOk]

/-- A number that no clause may have. -/
def badN (vars n : Int) : Bool := decide (n = 0 ∨ vars < n ∨ n < IntKind.i64.wrap (-vars))

theorem one1_eq {n vars : Int} {b : Nat} (hb : gh[b]? = some (.cells [I vars])) : callL pg 113 [I n, .ptr true b 0] gh = some (B (badN vars n), gh) := by
  by_cases h0 : n = 0
  · refine callL_fn (fn := f_cnf_one_1) (s := ?s1) rfl rfl (D_cnf_one_1_0_ok ?h1) ?r1
    case h1 => simp [D_cnf_one_1_0, h0]; rfl
    case r1 => simp [finish, results, f_cnf_one_1, resOfs, resOf, resOk, badN, h0]
  by_cases h1 : vars < n
  · refine callL_fn (fn := f_cnf_one_1) (s := ?s2) rfl rfl (D_cnf_one_1_0_ok ?h2) ?r2
    case h2 => simp [D_cnf_one_1_0, h0, hb, h1]; rfl
    case r2 => simp [finish, results, f_cnf_one_1, resOfs, resOf, resOk, badN, h1]
  · refine callL_fn (fn := f_cnf_one_1) (s := ?s3) rfl rfl (D_cnf_one_1_0_ok ?h3) ?r3
    case h3 => simp [D_cnf_one_1_0, h0, hb, h1]; rfl
    case r3 => simp [finish, results, f_cnf_one_1, resOfs, resOf, resOk, badN, h0, h1]

/-- What the check of a clause answers. -/
def oneE (vars : Int) (l : List Int) : Int := if 200 < l.length then 2 else if l.any (badN vars) then 5 else 0

theorem one_eq {vars : Int} {l : List Int} (hs : Sz l.length) : callL pg 94 [I vars, LI l] gh = some (I (oneE vars l), gh) := by
  by_cases h : 200 < l.length
  · have hI : (200 : Int) < (l.length : Int) := by omega
    refine callL_fn (fn := f_cnf_one) (s := ?s1) rfl rfl (D_cnf_one_0_ok ?h1) ?r1
    case h1 => simp [D_cnf_one_0, hI]; rfl
    case r1 => simp [finish, results, f_cnf_one, resOfs, resOf, resOk, oneE, h]
  · have hI : ¬ (200 : Int) < (l.length : Int) := by omega
    have hc : ∀ x ∈ l, callL pg 113 (I x :: [.ptr true gh.length 0]) (gh ++ [.cells [I vars]]) = some (B (badN vars x), gh ++ [.cells [I vars]]) := fun x _ => one1_eq (by simp)
    have := ContainsFunc_eq (caps := [.ptr true gh.length 0]) hc (by simp) hs
    cases hb : l.any (badN vars) with
    | true =>
      rw [hb] at this
      refine callL_fn (fn := f_cnf_one) (s := ?s2) rfl rfl (D_cnf_one_0_ok ?h2) ?r2
      case h2 => simp [D_cnf_one_0, hI, this]; rfl
      case r2 => simp [finish, results, f_cnf_one, resOfs, resOf, resOk, oneE, h, hb]
    | false =>
      rw [hb] at this
      refine callL_fn (fn := f_cnf_one) (s := ?s3) rfl rfl (D_cnf_one_0_ok ?h3) ?r3
      case h3 => simp [D_cnf_one_0, hI, this]; rfl
      case r3 => simp [finish, results, f_cnf_one, resOfs, resOf, resOk, oneE, h, hb]

/-- The first error of clauses. -/
def firstE (vars : Int) : List (List Int) → Int
  | [] => 0
  | l :: r => if oneE vars l = 0 then firstE vars r else oneE vars l

/-- What the check of clauses answers. -/
def clsE (vars : Int) (cls : List (List Int)) : Int := if vars < 0 ∨ 200000 < vars then 3 else if 800000 < cls.length then 2 else firstE vars cls

/-- No list among them is too long. -/
def SL (cls : List (List Int)) : Prop := ∀ l ∈ cls, Sz l.length

theorem CheckC_loop {vars : Int} {cls : List (List Int)} (hs : SL cls) (hl : cls.length ≤ 800000) : ∀ k i, i + k = cls.length →
    runL pg f_cnf_Check_l1 ⟨[(1, .ptr false 0 0), (19, .sl false 1 (cls.map fun l => LI l)), (20, I cls.length), (21, I (i : Int))], [[I vars, .sl false 1 (cls.map fun l => LI l)]], gh⟩ =
      if firstE vars (cls.drop i) = 0 then some (.normal, ⟨[], [], gh⟩) else some (.ret, ⟨[(2, I (firstE vars (cls.drop i)))], [], gh⟩)
  | 0, i, h => by
    rw [List.drop_eq_nil_of_le (by omega), firstE, if_pos rfl]
    have hlt : ¬ (i : Int) < (cls.length : Int) := by omega
    refine (lp_exit (s1 := ?s1) (D_cnf_Check_b1_ok ?h1)).trans ?r1
    case h1 => simp only [D_cnf_Check_b1, decide_eq_false hlt, br_false]; rfl
    case r1 => simp [keep]
  | k + 1, i, h => by
    have hlt : i < cls.length := by omega
    have hltI : (i : Int) < (cls.length : Int) := by omega
    have e2 : IntKind.i64.wrap ((i : Int) + 1) = ((i + 1 : Nat) : Int) := by rw [wrap_id (by omega) (by omega)]; omega
    have hx : (cls.map fun l => LI l)[i]? = some (LI cls[i]) := by simp [List.getElem?_eq_getElem hlt]
    have h1 := one_eq (gh := gh) (vars := vars) (hs _ (List.getElem_mem hlt))
    rw [List.drop_eq_getElem_cons hlt, firstE]
    by_cases he : oneE vars cls[i] = 0
    · rw [if_pos he]
      rw [he] at h1
      refine lp_next (s1 := ⟨[(1, .ptr false 0 0), (19, .sl false 1 (cls.map fun l => LI l)), (20, I cls.length), (21, I ((i + 1 : Nat) : Int))], [[I vars, .sl false 1 (cls.map fun l => LI l)]], gh⟩) (D_cnf_Check_b1_ok ?h2) (CheckC_loop hs hl k (i + 1) (by omega))
      case h2 => simp [D_cnf_Check_b1, hltI, hx, h1, e2, -List.getElem?_map]
    · rw [if_neg he, if_neg he]
      refine lp_ret (D_cnf_Check_b1_ok ?h3)
      case h3 => simp [D_cnf_Check_b1, hltI, hx, h1, he, -List.getElem?_map]

theorem CheckC_eq {vars : Int} {cls : List (List Int)} (hs : SL cls) : callL pg 59 [clV vars cls] gh = some (I (clsE vars cls), gh) := by
  by_cases h1 : vars < 0
  · refine callL_fn (fn := f_cnf_Check) (s := ?s1) rfl rfl (D_cnf_Check_0_ok ?h1) ?r1
    case h1 => simp [D_cnf_Check_0, h1]; rfl
    case r1 => simp [finish, results, f_cnf_Check, resOfs, resOf, resOk, clsE, h1]
  by_cases h2 : 200000 < vars
  · refine callL_fn (fn := f_cnf_Check) (s := ?s2) rfl rfl (D_cnf_Check_0_ok ?h2) ?r2
    case h2 => simp [D_cnf_Check_0, h1, h2]; rfl
    case r2 => simp [finish, results, f_cnf_Check, resOfs, resOf, resOk, clsE, h2]
  have h12 : ¬ (vars < 0 ∨ 200000 < vars) := by omega
  by_cases h3 : 800000 < cls.length
  · have hI : (800000 : Int) < (cls.length : Int) := by omega
    refine callL_fn (fn := f_cnf_Check) (s := ?s3) rfl rfl (D_cnf_Check_0_ok ?h3) ?r3
    case h3 => simp [D_cnf_Check_0, h1, h2, hI]; rfl
    case r3 => simp [finish, results, f_cnf_Check, resOfs, resOf, resOk, clsE, h12, h3]
  have hI : ¬ (800000 : Int) < (cls.length : Int) := by omega
  have hl := CheckC_loop (gh := gh) (vars := vars) hs (by omega) cls.length 0 (by omega)
  rw [List.drop_zero] at hl
  simp only [Int.natCast_zero] at hl
  generalize hL : (cls.map fun l => LI l) = L at *
  have hLl : L.length = cls.length := by rw [← hL]; simp
  by_cases he : firstE vars cls = 0
  · rw [if_pos he] at hl
    have hk := D_cnf_Check_k1_ok (pg := pg) (gh := gh) (e := .ret) (s := ⟨[(2, I 0)], [], gh⟩) rfl
    refine callL_fn (fn := f_cnf_Check) (s := ?s4) rfl rfl (D_cnf_Check_0_ok ?h4) ?r4
    case h4 => simp [D_cnf_Check_0, h1, h2, hLl, hI, hl, hk, hL]; rfl
    case r4 => simp [finish, results, f_cnf_Check, resOfs, resOf, resOk, clsE, h12, h3, he]
  · rw [if_neg he] at hl
    refine callL_fn (fn := f_cnf_Check) (s := ?s5) rfl rfl (D_cnf_Check_0_ok ?h5) ?r5
    case h5 => simp [D_cnf_Check_0, h1, h2, hLl, hI, hl, hL]; rfl
    case r5 => simp [finish, results, f_cnf_Check, resOfs, resOf, resOk, clsE, h12, h3]

/-- What Done answers. -/
def doneE (vars : Int) (cls : List (List Int)) : PV := if clsE vars cls = 0 then .tup [clV vars cls, I 0] else .tup [clV 0 [], I (clsE vars cls)]

theorem Done_eq {vars : Int} {cls : List (List Int)} (hs : SL cls) : callL pg 55 [clV vars cls] gh = some (doneE vars cls, gh) := by
  have h := CheckC_eq (gh := gh) (vars := vars) hs
  have hn := noGs_lists cls
  unfold clV at h
  unfold doneE clV
  generalize (cls.map fun l => LI l) = L at *
  by_cases he : clsE vars cls = 0
  · rw [he] at h
    refine callL_fn (fn := f_cnf_Done) (s := ?s1) rfl rfl (D_cnf_Done_0_ok ?h1) ?r1
    case h1 => simp [D_cnf_Done_0, h]; rfl
    case r1 => simp [finish, results, f_cnf_Done, resOfs, resOf, St.cellsAt, resOk, he, hn]
  · refine callL_fn (fn := f_cnf_Done) (s := ?s2) rfl rfl (D_cnf_Done_0_ok ?h2) ?r2
    case h2 => simp [D_cnf_Done_0, h, he]; rfl
    case r2 => simp [finish, results, f_cnf_Done, resOfs, resOf, St.cellsAt, resOk, he]

/-- The clauses of roots. -/
def rootsC (more : Int) : List Int → List (List Int)
  | [] => []
  | r :: l => mustC r more ++ rootsC more l

theorem rootsC_len (more : Int) : ∀ l : List Int, (rootsC more l).length ≤ l.length
  | [] => Nat.le_refl _
  | r :: l => by
    have := mustC_len r more
    have := rootsC_len more l
    rw [rootsC, List.length_append, List.length_cons]; omega

def ofSt (gh : List GObj) (ins : Int) (ands : List (Int × Int)) (roots : List Int) (vars : Int) (cls : List (List Int)) (i : Nat) : St :=
  ⟨[(4, .ptr false 1 0), (7, .ptr true gh.length 0), (33, LI roots), (34, I roots.length), (35, I (i : Int))], [[I ins, .sl false 2 (ands.map andV)], [I 0, .sl true 1 []]], mkC gh vars cls⟩

theorem Of_loop {vars : Int} {roots : List Int} (hr : roots.length ≤ 1100000) : ∀ k i (cls : List (List Int)), i + k = roots.length → cls.length + k ≤ 5000000 →
    runL pg f_cnf_Of_l1 (ofSt gh ins ands roots vars cls i) = some (.normal, ⟨[(4, .ptr false 1 0), (7, .ptr true gh.length 0)], [[I ins, .sl false 2 (ands.map andV)], [I 0, .sl true 1 []]], mkC gh vars (cls ++ rootsC 0 (roots.drop i))⟩)
  | 0, i, cls, h, _ => by
    rw [List.drop_eq_nil_of_le (by omega)]
    have hlt : ¬ (i : Int) < (roots.length : Int) := by omega
    refine (lp_exit (s1 := ?s1) (D_cnf_Of_b1_ok ?h1)).trans ?r1
    case h1 => simp only [D_cnf_Of_b1, decide_eq_false hlt, br_false]; rfl
    case r1 => simp [keep, rootsC, stays]
  | k + 1, i, cls, h, hs => by
    have hlt : i < roots.length := by omega
    have hltI : (i : Int) < (roots.length : Int) := by omega
    have e2 : IntKind.i64.wrap ((i : Int) + 1) = ((i + 1 : Nat) : Int) := by rw [wrap_id (by omega) (by omega)]; omega
    have hx : (roots.map I)[i]? = some (I roots[i]) := by simp [List.getElem?_eq_getElem hlt]
    have hm := Must_eq (gh := gh) (r := roots[i]) (more := 0) (vars := vars) (cls := cls) (by omega)
    rw [List.drop_eq_getElem_cons hlt, rootsC, ← List.append_assoc]
    refine lp_next (D_cnf_Of_b1_ok (s := ofSt gh ins ands roots vars (cls ++ mustC roots[i] 0) (i + 1)) ?h2) (Of_loop hr k (i + 1) _ (by omega) (by have := mustC_len roots[i] 0; simp; omega))
    case h2 =>
      unfold ofSt
      generalize mkC gh vars (cls ++ mustC roots[i] 0) = g1 at *
      generalize mkC gh vars cls = g0 at *
      simp [D_cnf_Of_b1, hltI, hx, hm, e2, -List.getElem?_map]

/-- What Of answers. -/
def ofE (ins : Int) (ands : List (Int × Int)) (roots : List Int) : PV :=
  if chkE ins ands ≠ 0 then .tup [clV 0 [], I (chkE ins ands)] else if roots.all (isLit ins ands) = false then .tup [clV 0 [], I 5]
  else doneE (IntKind.i64.wrap (ins + ands.length)) (andsC ins 0 0 ands ++ rootsC 0 roots)

theorem andsC_short (ins more : Int) : ∀ (i : Nat) (l : List (Int × Int)), SL (andsC ins more i l)
  | _, [] => fun l h => by cases h
  | i, x :: r => fun l h => by
    rw [andsC] at h
    rcases List.mem_append.1 h with h | h
    · simp only [andC, List.mem_cons, List.not_mem_nil, or_false] at h
      rcases h with rfl | rfl | rfl <;> simp
    · exact andsC_short ins more (i + 1) r l h

theorem rootsC_short (more : Int) : ∀ l : List Int, SL (rootsC more l)
  | [] => fun l h => by cases h
  | r :: t => fun l h => by
    rw [rootsC] at h
    rcases List.mem_append.1 h with h | h
    · unfold mustC at h
      split at h
      · cases h
      · split at h <;> simp at h <;> subst h <;> simp
    · exact rootsC_short more t l h

theorem SL_append {a b : List (List Int)} (ha : SL a) (hb : SL b) : SL (a ++ b) := fun l h => by
  rcases List.mem_append.1 h with h | h
  · exact ha l h
  · exact hb l h

theorem doneE_out {vars : Int} {cls : List (List Int)} : ∃ (n : Int) (c : List (List Int)) (e : Int), doneE vars cls = .tup [clV n c, I e] := by
  unfold doneE; split
  · exact ⟨_, _, _, rfl⟩
  · exact ⟨_, _, _, rfl⟩

theorem Of_eq {roots : List Int} (hr : RA ands) (hs : roots.length ≤ 1100000) : callL pg 16 [graphV ins ands, LI roots] gh = some (ofE ins ands roots, gh) := by
  have hC := Check_eq (ins := ins) (gh := gh) hr
  unfold graphV at hC
  unfold ofE
  by_cases hc : chkE ins ands = 0
  · obtain ⟨hi, hl, hok, hnd⟩ := chkE_zero hc
    have hI := Is_eq (gh := gh) (lits := roots) hi hl (by simp only [Sz]; omega)
    unfold graphV at hI
    rw [hc] at hC
    rw [if_neg (fun h => h hc)]
    cases hb : roots.all (isLit ins ands) with
    | false =>
      rw [hb] at hI
      refine callL_fn (fn := f_cnf_Of) (s := ?s1) rfl rfl (D_cnf_Of_0_ok ?h1) ?r1
      case h1 => simp [D_cnf_Of_0, hC, hI]; rfl
      case r1 => simp [finish, results, f_cnf_Of, resOfs, resOf, St.cellsAt, resOk, clV]
    | true =>
      rw [hb] at hI
      rw [if_neg (by simp)]
      generalize hv : IntKind.i64.wrap (ins + (ands.length : Int)) = vars
      have hA := Ands_eq (gh := gh) (ins := ins) (ands := ands) (more := 0) (vars := vars) hl
      have hal := andsC_len ins 0 0 ands
      have hrl := rootsC_len 0 roots
      have hL := Of_loop (gh := gh) (ins := ins) (ands := ands) (vars := vars) hs roots.length 0 (andsC ins 0 0 ands) (by omega) (by omega)
      rw [List.drop_zero] at hL
      have hSL := SL_append (andsC_short ins 0 0 ands) (rootsC_short 0 roots)
      generalize andsC ins 0 0 ands ++ rootsC 0 roots = C at *
      generalize andsC ins 0 0 ands = A at *
      have hD := Done_eq (gh := mkC gh vars C) (vars := vars) hSL
      obtain ⟨n, c, e, ho⟩ := doneE_out (vars := vars) (cls := C)
      rw [ho] at hD ⊢
      have hn := noGs_lists c
      have hk := D_cnf_Of_k1_ok (pg := pg) (g7 := gh.length) (o7 := 0) (gh := mkC gh vars C) (xc0_0 := ins) (vc0_1 := .sl false 2 (ands.map andV)) (xc1_0 := 0) (vc1_1 := .sl true 1 []) (e := .ret)
        (s := ⟨[(4, .ptr false 1 0), (5, I e)], [[I ins, .sl false 2 (ands.map andV)], [I n, .sl false 1 (c.map fun l => LI l)]], mkC gh vars C⟩) (by
          unfold clV at hD
          simp only [mkC] at hD
          simp [D_cnf_Of_k1, mkC, hD])
      unfold ofSt at hL
      unfold graphV at hA
      simp only [Int.natCast_zero] at hL
      simp only [mkC] at hA hL hk
      refine callL_fn (fn := f_cnf_Of) (s := ⟨[(4, .ptr false 1 0), (5, I e)], [[I ins, .sl false 2 (ands.map andV)], [I n, .sl false 1 (c.map fun l => LI l)]], mkC gh vars C⟩) rfl rfl (D_cnf_Of_0_ok ?h2) ?r2
      case h2 =>
        simp only [List.map_nil] at hA
        simp [D_cnf_Of_0, hC, hI, hv, hA, hL, hk, mkC]
      case r2 => simp [finish, results, f_cnf_Of, resOfs, resOf, St.cellsAt, resOk, mkC, clV, hn]
  · rw [if_pos hc]
    refine callL_fn (fn := f_cnf_Of) (s := ?s3) rfl rfl (D_cnf_Of_0_ok ?h3) ?r3
    case h3 => simp [D_cnf_Of_0, hC, hc]; rfl
    case r3 => simp [finish, results, f_cnf_Of, resOfs, resOf, St.cellsAt, resOk, clV]

end
end Go.Lw
end

/-! What the code of function word_Fit comes to, piece by piece. Written by program (dprint.py). -/
section
set_option maxRecDepth 10000
set_option maxHeartbeats 4000000
namespace Go.Lw
open Go

def an_word_Fit : Tr := (.node 29 (.ce (.int .i64)) (.node 16 (.tup 2) (.node 10 (.ce (.bool)) (.node 3 (.agg [.int .i64, .int .i64, .int .i64]) (.node 1 (.ce (.int .i64)) (.node 0 (.ce (.int .i64)) .nil .nil) (.node 2 (.ce (.int .i64)) .nil .nil)) (.node 9 (.ce (.int .i64)) (.node 8 (.ce (.int .i64)) .nil .nil) .nil)) (.node 13 (.tup 2) (.node 12 (.ce (.int .i64)) (.node 11 (.ce (.int .i64)) .nil .nil) .nil) (.node 15 (.ce (.int .i64)) (.node 14 (.ce (.one)) .nil .nil) .nil))) (.node 23 (.ce (.bool)) (.node 20 (.ce (.bool)) (.node 18 (.ce (.bool)) (.node 17 (.ce (.int .i64)) .nil .nil) (.node 19 (.ce (.bool)) .nil .nil)) (.node 22 (.ce (.bool)) (.node 21 (.ce (.int .i64)) .nil .nil) .nil)) (.node 26 (.ce (.bool)) (.node 25 (.ce (.int .i64)) (.node 24 (.agg [.int .i64, .int .i64, .int .i64]) .nil .nil) .nil) (.node 28 (.ce (.int .i64)) (.node 27 (.ce (.int .i64)) .nil .nil) .nil)))) (.node 42 (.ce (.bool)) (.node 36 (.ce (.bool)) (.node 33 (.ce (.bool)) (.node 31 (.ce (.int .i64)) (.node 30 (.ce (.int .i64)) .nil .nil) (.node 32 (.ce (.bool)) .nil .nil)) (.node 35 (.ce (.bool)) (.node 34 (.ce (.int .i64)) .nil .nil) .nil)) (.node 39 (.ce (.int .i64)) (.node 38 (.ce (.bool)) (.node 37 (.ce (.bool)) .nil .nil) .nil) (.node 41 (.ce (.int .i64)) (.node 40 (.ce (.int .i64)) .nil .nil) .nil))) (.node 49 (.ce (.int .i64)) (.node 46 (.ce (.bool)) (.node 44 (.ce (.int .i64)) (.node 43 (.ce (.bool)) .nil .nil) (.node 45 (.ce (.bool)) .nil .nil)) (.node 48 (.ce (.int .i64)) (.node 47 (.ce (.bool)) .nil .nil) .nil)) (.node 52 (.agg [.int .i64, .int .i64, .int .i64]) (.node 51 (.ce (.int .i64)) (.node 50 (.ce (.int .i64)) .nil .nil) .nil) (.node 54 (.ce (.bool)) (.node 53 (.ce (.bool)) .nil .nil) .nil)))))

noncomputable def D_word_Fit_b1 (pg : Prg) (x0 : Int) (x1 : Int) (x2 : Int) (x9 : Int) (x24_0 : Int) (x24_1 : Int) (x24_2 : Int) (x25 : Int) (xc0_0 : Int) (xc0_1 : Int) (xc0_2 : Int) (gh : List GObj) : Option (IExit × St) := 
  br 26 (decide (x25 < 3)) (ixX (.agg [(.int .i64 x24_0), (.int .i64 x24_1), (.int .i64 x24_2)]) 1 3 false x25 fun v1 => unI .i64 v1 fun n2 => 
  callR gh true (callL pg 63 [(.int .i64 x0)] gh) fun r3 gh4 => unI .i64 r3 fun n5 => 
  br 33 (decide (x25 < n5)) (
  callR gh4 true (callL pg 62 [(.int .i64 n2)] gh4) fun r6 gh7 => unB r6 fun b8 => 
  br 38 (!b8) (some (.ret, ⟨[(8, (.int .i64 3))], [], gh7⟩)) (
  callR gh7 true (callL pg 63 [(.int .i64 x0)] gh7) fun r9 gh10 => unI .i64 r9 fun n11 => 
  br 43 (decide (n11 ≤ x25)) (
  br 47 (n2 != 0) (some (.ret, ⟨[(8, (.int .i64 3))], [], gh10⟩)) (some (.normal, ⟨[(0, (.int .i64 x0)), (1, (.int .i64 x1)), (2, (.int .i64 x2)), (7, (.ptr false 0 0)), (9, (.int .i64 x9)), (24, (.agg [(.int .i64 x24_0), (.int .i64 x24_1), (.int .i64 x24_2)])), (25, (.int .i64 (IntKind.i64.wrap (x25 + 1))))], [[(.int .i64 xc0_0), (.int .i64 xc0_1), (.int .i64 xc0_2)]], gh10⟩))) (some (.normal, ⟨[(0, (.int .i64 x0)), (1, (.int .i64 x1)), (2, (.int .i64 x2)), (7, (.ptr false 0 0)), (9, (.int .i64 x9)), (24, (.agg [(.int .i64 x24_0), (.int .i64 x24_1), (.int .i64 x24_2)])), (25, (.int .i64 (IntKind.i64.wrap (x25 + 1))))], [[(.int .i64 xc0_0), (.int .i64 xc0_1), (.int .i64 xc0_2)]], gh10⟩)))) (
  callR gh4 true (callL pg 63 [(.int .i64 x0)] gh4) fun r12 gh13 => unI .i64 r12 fun n14 => 
  br 43 (decide (n14 ≤ x25)) (
  br 47 (n2 != 0) (some (.ret, ⟨[(8, (.int .i64 3))], [], gh13⟩)) (some (.normal, ⟨[(0, (.int .i64 x0)), (1, (.int .i64 x1)), (2, (.int .i64 x2)), (7, (.ptr false 0 0)), (9, (.int .i64 x9)), (24, (.agg [(.int .i64 x24_0), (.int .i64 x24_1), (.int .i64 x24_2)])), (25, (.int .i64 (IntKind.i64.wrap (x25 + 1))))], [[(.int .i64 xc0_0), (.int .i64 xc0_1), (.int .i64 xc0_2)]], gh13⟩))) (some (.normal, ⟨[(0, (.int .i64 x0)), (1, (.int .i64 x1)), (2, (.int .i64 x2)), (7, (.ptr false 0 0)), (9, (.int .i64 x9)), (24, (.agg [(.int .i64 x24_0), (.int .i64 x24_1), (.int .i64 x24_2)])), (25, (.int .i64 (IntKind.i64.wrap (x25 + 1))))], [[(.int .i64 xc0_0), (.int .i64 xc0_1), (.int .i64 xc0_2)]], gh13⟩)))) (some ((.exit 0), ⟨[(0, (.int .i64 x0)), (1, (.int .i64 x1)), (2, (.int .i64 x2)), (7, (.ptr false 0 0)), (9, (.int .i64 x9)), (24, (.agg [(.int .i64 x24_0), (.int .i64 x24_1), (.int .i64 x24_2)])), (25, (.int .i64 x25)), (26, (.bool (decide (x25 < 3))))], [[(.int .i64 xc0_0), (.int .i64 xc0_1), (.int .i64 xc0_2)]], gh⟩))

theorem D_word_Fit_b1_ok {pg : Prg} {gh : List GObj} {x0 : Int} {x1 : Int} {x2 : Int} {x9 : Int} {x24_0 : Int} {x24_1 : Int} {x24_2 : Int} {x25 : Int} {xc0_0 : Int} {xc0_1 : Int} {xc0_2 : Int} {e : IExit} {s : St} (h : D_word_Fit_b1 pg x0 x1 x2 x9 x24_0 x24_1 x24_2 x25 xc0_0 xc0_1 xc0_2 gh = some (e, s)) : runL pg f_word_Fit_b1 ⟨[(0, (.int .i64 x0)), (1, (.int .i64 x1)), (2, (.int .i64 x2)), (7, (.ptr false 0 0)), (9, (.int .i64 x9)), (24, (.agg [(.int .i64 x24_0), (.int .i64 x24_1), (.int .i64 x24_2)])), (25, (.int .i64 x25))], [[(.int .i64 xc0_0), (.int .i64 xc0_1), (.int .i64 xc0_2)]], gh⟩ = some (e, s) :=
  runX_ok an_word_Fit (Eq.trans (by kernel_rfl) h)

noncomputable def D_word_Fit_k1 (pg : Prg) (x1 : Int) (x2 : Int) (x9 : Int) (xc0_0 : Int) (xc0_1 : Int) (xc0_2 : Int) (gh : List GObj) : Option (IExit × St) := 
  callR gh true (callL pg 64 [(.int .i64 x9), (.int .i64 x1), (.int .i64 x2), (.agg [(.int .i64 xc0_0), (.int .i64 xc0_1), (.int .i64 xc0_2)])] gh) fun r1 gh2 => unB r1 fun b3 => 
  br 54 (!b3) (some (.ret, ⟨[(8, (.int .i64 1))], [], gh2⟩)) (some (.ret, ⟨[(8, (.int .i64 0))], [], gh2⟩))

theorem D_word_Fit_k1_ok {pg : Prg} {gh : List GObj} {x1 : Int} {x2 : Int} {x9 : Int} {xc0_0 : Int} {xc0_1 : Int} {xc0_2 : Int} {e : IExit} {s : St} (h : D_word_Fit_k1 pg x1 x2 x9 xc0_0 xc0_1 xc0_2 gh = some (e, s)) : runL pg f_word_Fit_k1 ⟨[(1, (.int .i64 x1)), (2, (.int .i64 x2)), (7, (.ptr false 0 0)), (9, (.int .i64 x9))], [[(.int .i64 xc0_0), (.int .i64 xc0_1), (.int .i64 xc0_2)]], gh⟩ = some (e, s) :=
  runX_ok an_word_Fit (Eq.trans (by kernel_rfl) h)

noncomputable def D_word_Fit_0 (pg : Prg) (x0 : Int) (x1 : Int) (x2 : Int) (x3_0 : Int) (x3_1 : Int) (x3_2 : Int) (gh : List GObj) : Option (IExit × St) := 
  callR gh false (callL pg 61 [] gh) fun r1 gh2 => isC r1 (
  lkX gh2 0 (degr r1) (.int .i64 x0) fun r3 => unI .i64 (degr1 (degr1 (Option.getD r3 (.int .i64 0)))) fun n4 => 
  br 20 (!(Option.isSome r3)) (some (.ret, ⟨[(8, (.int .i64 7))], [], gh2⟩)) (
  callR gh2 true (callL pg 62 [(.int .i64 x1)] gh2) fun r5 gh6 => unB r5 fun b7 => 
  br 23 (!b7) (some (.ret, ⟨[(8, (.int .i64 3))], [], gh6⟩)) (
  kR (runL pg f_word_Fit_l1 ⟨[(0, (.int .i64 x0)), (1, (.int .i64 x1)), (2, (.int .i64 x2)), (7, (.ptr false 0 0)), (9, (.int .i64 n4)), (24, (.agg [(.int .i64 x3_0), (.int .i64 x3_1), (.int .i64 x3_2)])), (25, (.int .i64 0))], [[(.int .i64 x3_0), (.int .i64 x3_1), (.int .i64 x3_2)]], gh6⟩) (fun e s => nx e s (fun e s => some (e, s)) fun s => kR (runL pg f_word_Fit_k1 s) (fun e s => some (e, s))))))

theorem D_word_Fit_0_ok {pg : Prg} {gh : List GObj} {x0 : Int} {x1 : Int} {x2 : Int} {x3_0 : Int} {x3_1 : Int} {x3_2 : Int} {e : IExit} {s : St} (h : D_word_Fit_0 pg x0 x1 x2 x3_0 x3_1 x3_2 gh = some (e, s)) : runL pg f_word_Fit_0 ⟨[(0, (.int .i64 x0)), (1, (.int .i64 x1)), (2, (.int .i64 x2)), (3, (.agg [(.int .i64 x3_0), (.int .i64 x3_1), (.int .i64 x3_2)]))], [], gh⟩ = some (e, s) :=
  runX_ok an_word_Fit (Eq.trans (by kernel_rfl) h)

end Go.Lw
end

/-! What the code of function word_Takes comes to, piece by piece. Written by program (dprint.py). -/
section
set_option maxRecDepth 10000
set_option maxHeartbeats 4000000
namespace Go.Lw
open Go

def an_word_Takes : Tr := (.node 7 (.ce (.bool)) (.node 4 (.ce (.int .i64)) (.node 2 (.ce (.int .i64)) (.node 0 (.ce (.int .i64)) .nil .nil) (.node 3 (.ce (.one)) .nil .nil)) (.node 6 (.ce (.bool)) (.node 5 (.ce (.int .i64)) .nil .nil) .nil)) (.node 11 (.ce (.bool)) (.node 9 (.ce (.bool)) (.node 8 (.ce (.bool)) .nil .nil) (.node 10 (.ce (.bool)) .nil .nil)) (.node 13 (.ce (.bool)) (.node 12 (.ce (.bool)) .nil .nil) .nil)))

noncomputable def D_word_Takes_k1 (pg : Prg) (x5 : Int) (b8 : Bool) (gh : List GObj) : Option (IExit × St) := 
  br 8 b8 (some (.ret, ⟨[(2, (.int .i64 1))], [], gh⟩)) (
  br 12 (x5 == 4) (some (.ret, ⟨[(2, (.int .i64 3))], [], gh⟩)) (some (.normal, ⟨[(12, (.bool (x5 == 4)))], [], gh⟩)))

theorem D_word_Takes_k1_ok {pg : Prg} {gh : List GObj} {x5 : Int} {b8 : Bool} {e : IExit} {s : St} (h : D_word_Takes_k1 pg x5 b8 gh = some (e, s)) : runL pg f_word_Takes_k1 ⟨[(5, (.int .i64 x5)), (8, (.bool b8))], [], gh⟩ = some (e, s) :=
  runX_ok an_word_Takes (Eq.trans (by kernel_rfl) h)

noncomputable def D_word_Takes_k2 (pg : Prg) (b12 : Bool) (gh : List GObj) : Option (IExit × St) := some (.ret, ⟨[(2, (.int .i64 2))], [], gh⟩)

theorem D_word_Takes_k2_ok {pg : Prg} {gh : List GObj} {b12 : Bool} {e : IExit} {s : St} (h : D_word_Takes_k2 pg b12 gh = some (e, s)) : runL pg f_word_Takes_k2 ⟨[(12, (.bool b12))], [], gh⟩ = some (e, s) :=
  runX_ok an_word_Takes (Eq.trans (by kernel_rfl) h)

noncomputable def D_word_Takes_0 (pg : Prg) (x0 : Int) (gh : List GObj) : Option (IExit × St) := 
  callR gh false (callL pg 61 [] gh) fun r1 gh2 => isC r1 (
  lkX gh2 0 (degr r1) (.int .i64 x0) fun r3 => unI .i64 (Option.getD r3 (.int .i64 0)) fun n4 => 
  br 6 (n4 == 0) (some (.ret, ⟨[(2, (.int .i64 0))], [], gh2⟩)) (
  br 8 (n4 == 1) (
  kR (runL pg f_word_Takes_k1 ⟨[(5, (.int .i64 n4)), (8, (.bool (n4 == 1)))], [], gh2⟩) (fun e s => bk 0 e s (fun e s => nx e s (fun e s => some (e, s)) fun s => kR (runL pg f_word_Takes_k2 s) (fun e s => some (e, s))))) (
  br 8 (n4 == 6) (
  kR (runL pg f_word_Takes_k1 ⟨[(5, (.int .i64 n4)), (8, (.bool (n4 == 6)))], [], gh2⟩) (fun e s => bk 0 e s (fun e s => nx e s (fun e s => some (e, s)) fun s => kR (runL pg f_word_Takes_k2 s) (fun e s => some (e, s))))) (
  kR (runL pg f_word_Takes_k1 ⟨[(5, (.int .i64 n4)), (8, (.bool (n4 == 7)))], [], gh2⟩) (fun e s => bk 0 e s (fun e s => nx e s (fun e s => some (e, s)) fun s => kR (runL pg f_word_Takes_k2 s) (fun e s => some (e, s))))))))

theorem D_word_Takes_0_ok {pg : Prg} {gh : List GObj} {x0 : Int} {e : IExit} {s : St} (h : D_word_Takes_0 pg x0 gh = some (e, s)) : runL pg f_word_Takes_0 ⟨[(0, (.int .i64 x0))], [], gh⟩ = some (e, s) :=
  runX_ok an_word_Takes (Eq.trans (by kernel_rfl) h)

end Go.Lw
end

/-! What the code of function word_IsWidth comes to, piece by piece. Written by program (dprint.py). -/
section
set_option maxRecDepth 10000
set_option maxHeartbeats 4000000
namespace Go.Lw
open Go

def an_word_IsWidth : Tr := (.node 5 (.ce (.bool)) (.node 3 (.ce (.int .i64)) (.node 2 (.ce (.bool)) (.node 0 (.ce (.int .i64)) .nil .nil) .nil) (.node 4 (.ce (.bool)) .nil .nil)) (.node 7 (.ce (.bool)) (.node 6 (.ce (.int .i64)) .nil .nil) (.node 8 (.ce (.bool)) .nil .nil)))

noncomputable def D_word_IsWidth_0 (pg : Prg) (x0 : Int) (gh : List GObj) : Option (IExit × St) := 
  br 5 (decide (1 ≤ x0)) (some (.ret, ⟨[(2, (.bool (decide (x0 ≤ 8))))], [], gh⟩)) (some (.ret, ⟨[(2, (.bool false))], [], gh⟩))

theorem D_word_IsWidth_0_ok {pg : Prg} {gh : List GObj} {x0 : Int} {e : IExit} {s : St} (h : D_word_IsWidth_0 pg x0 gh = some (e, s)) : runL pg f_word_IsWidth_0 ⟨[(0, (.int .i64 x0))], [], gh⟩ = some (e, s) :=
  runX_ok an_word_IsWidth (Eq.trans (by kernel_rfl) h)

end Go.Lw
end

/-! What the code of function word_fits comes to, piece by piece. Written by program (dprint.py). -/
section
set_option maxRecDepth 10000
set_option maxHeartbeats 4000000
namespace Go.Lw
open Go

def an_word_fits : Tr := (.node 44 (.ce (.bool)) (.node 22 (.ce (.bool)) (.node 12 (.ce (.int .i64)) (.node 8 (.ce (.bool)) (.node 2 (.ce (.int .i64)) (.node 1 (.ce (.int .i64)) (.node 0 (.ce (.int .i64)) .nil .nil) .nil) (.node 3 (.agg [.int .i64, .int .i64, .int .i64]) .nil .nil)) (.node 10 (.ce (.bool)) (.node 9 (.ce (.int .i64)) .nil .nil) (.node 11 (.ce (.bool)) .nil .nil))) (.node 17 (.ce (.bool)) (.node 15 (.ce (.int .i64)) (.node 14 (.ce (.bool)) (.node 13 (.ce (.bool)) .nil .nil) .nil) (.node 16 (.ce (.bool)) .nil .nil)) (.node 20 (.ce (.int .i64)) (.node 19 (.ce (.int .i64)) .nil .nil) (.node 21 (.ce (.bool)) .nil .nil)))) (.node 33 (.ce (.bool)) (.node 28 (.ce (.bool)) (.node 26 (.ce (.int .i64)) (.node 25 (.ce (.int .i64)) (.node 23 (.ce (.bool)) .nil .nil) .nil) (.node 27 (.ce (.bool)) .nil .nil)) (.node 31 (.ce (.int .i64)) (.node 30 (.ce (.int .i64)) .nil .nil) (.node 32 (.ce (.bool)) .nil .nil))) (.node 40 (.ce (.bool)) (.node 37 (.ce (.int .i64)) (.node 35 (.ce (.bool)) (.node 34 (.ce (.bool)) .nil .nil) .nil) (.node 39 (.ce (.int .i64)) .nil .nil)) (.node 42 (.ce (.int .i64)) (.node 41 (.ce (.bool)) .nil .nil) (.node 43 (.ce (.bool)) .nil .nil))))) (.node 67 (.ce (.int .i64)) (.node 55 (.ce (.bool)) (.node 50 (.ce (.bool)) (.node 48 (.ce (.int .i64)) (.node 46 (.ce (.bool)) (.node 45 (.ce (.bool)) .nil .nil) .nil) (.node 49 (.ce (.bool)) .nil .nil)) (.node 53 (.ce (.int .i64)) (.node 52 (.ce (.int .i64)) .nil .nil) (.node 54 (.ce (.bool)) .nil .nil))) (.node 61 (.ce (.bool)) (.node 59 (.ce (.int .i64)) (.node 58 (.ce (.int .i64)) (.node 56 (.ce (.bool)) .nil .nil) .nil) (.node 60 (.ce (.bool)) .nil .nil)) (.node 63 (.ce (.bool)) (.node 62 (.ce (.bool)) .nil .nil) (.node 65 (.ce (.int .i64)) .nil .nil)))) (.node 76 (.ce (.int .i64)) (.node 72 (.ce (.bool)) (.node 70 (.ce (.bool)) (.node 69 (.ce (.int .i64)) (.node 68 (.ce (.int .i64)) .nil .nil) .nil) (.node 71 (.ce (.bool)) .nil .nil)) (.node 74 (.ce (.bool)) (.node 73 (.ce (.int .i64)) .nil .nil) (.node 75 (.ce (.bool)) .nil .nil))) (.node 82 (.ce (.bool)) (.node 80 (.ce (.int .i64)) (.node 79 (.ce (.int .i64)) (.node 78 (.ce (.int .i64)) .nil .nil) .nil) (.node 81 (.ce (.bool)) .nil .nil)) (.node 85 (.ce (.int .i64)) (.node 83 (.ce (.int .i64)) .nil .nil) (.node 86 (.ce (.bool)) .nil .nil))))))

noncomputable def D_word_fits_0 (pg : Prg) (x0 : Int) (x1 : Int) (x2 : Int) (x3_0 : Int) (x3_1 : Int) (x3_2 : Int) (gh : List GObj) : Option (IExit × St) := 
  br 11 (x2 != 0) (
  br 14 (x0 != 6) (some (.ret, ⟨[(8, (.bool false))], [], gh⟩)) (
  br 16 (x0 == 1) (some (.ret, ⟨[(8, (.bool (x3_0 == x1)))], [], gh⟩)) (
  br 22 (x0 == 2) (
  br 28 (x3_0 == x1) (some (.ret, ⟨[(8, (.bool (x3_1 == x1)))], [], gh⟩)) (some (.ret, ⟨[(8, (.bool false))], [], gh⟩))) (
  br 34 (x0 == 3) (
  br 41 (x3_0 == x3_1) (some (.ret, ⟨[(8, (.bool (x1 == 1)))], [], gh⟩)) (some (.ret, ⟨[(8, (.bool false))], [], gh⟩))) (
  br 45 (x0 == 4) (
  br 50 (x3_0 == 1) (
  br 56 (x3_1 == x1) (some (.ret, ⟨[(8, (.bool (x3_2 == x1)))], [], gh⟩)) (some (.ret, ⟨[(8, (.bool false))], [], gh⟩))) (some (.ret, ⟨[(8, (.bool false))], [], gh⟩))) (
  br 62 (x0 == 5) (some (.ret, ⟨[(8, (.bool ((IntKind.i64.wrap (x3_0 + x3_1)) == x1)))], [], gh⟩)) (
  br 71 (x0 == 6) (
  br 75 (decide (0 ≤ x2)) (some (.ret, ⟨[(8, (.bool (decide (x2 ≤ (IntKind.i64.wrap (x3_0 - x1))))))], [], gh⟩)) (some (.ret, ⟨[(8, (.bool false))], [], gh⟩))) (some (.ret, ⟨[(8, (.bool (decide (x3_0 ≤ x1))))], [], gh⟩))))))))) (
  br 16 (x0 == 1) (some (.ret, ⟨[(8, (.bool (x3_0 == x1)))], [], gh⟩)) (
  br 22 (x0 == 2) (
  br 28 (x3_0 == x1) (some (.ret, ⟨[(8, (.bool (x3_1 == x1)))], [], gh⟩)) (some (.ret, ⟨[(8, (.bool false))], [], gh⟩))) (
  br 34 (x0 == 3) (
  br 41 (x3_0 == x3_1) (some (.ret, ⟨[(8, (.bool (x1 == 1)))], [], gh⟩)) (some (.ret, ⟨[(8, (.bool false))], [], gh⟩))) (
  br 45 (x0 == 4) (
  br 50 (x3_0 == 1) (
  br 56 (x3_1 == x1) (some (.ret, ⟨[(8, (.bool (x3_2 == x1)))], [], gh⟩)) (some (.ret, ⟨[(8, (.bool false))], [], gh⟩))) (some (.ret, ⟨[(8, (.bool false))], [], gh⟩))) (
  br 62 (x0 == 5) (some (.ret, ⟨[(8, (.bool ((IntKind.i64.wrap (x3_0 + x3_1)) == x1)))], [], gh⟩)) (
  br 71 (x0 == 6) (
  br 75 (decide (0 ≤ x2)) (some (.ret, ⟨[(8, (.bool (decide (x2 ≤ (IntKind.i64.wrap (x3_0 - x1))))))], [], gh⟩)) (some (.ret, ⟨[(8, (.bool false))], [], gh⟩))) (some (.ret, ⟨[(8, (.bool (decide (x3_0 ≤ x1))))], [], gh⟩))))))))

theorem D_word_fits_0_ok {pg : Prg} {gh : List GObj} {x0 : Int} {x1 : Int} {x2 : Int} {x3_0 : Int} {x3_1 : Int} {x3_2 : Int} {e : IExit} {s : St} (h : D_word_fits_0 pg x0 x1 x2 x3_0 x3_1 x3_2 gh = some (e, s)) : runL pg f_word_fits_0 ⟨[(0, (.int .i64 x0)), (1, (.int .i64 x1)), (2, (.int .i64 x2)), (3, (.agg [(.int .i64 x3_0), (.int .i64 x3_1), (.int .i64 x3_2)]))], [], gh⟩ = some (e, s) :=
  runX_ok an_word_fits (Eq.trans (by kernel_rfl) h)

end Go.Lw
end

/-! What the code of function word_shapes comes to, piece by piece. Written by program (dprint.py). -/
section
set_option maxRecDepth 10000
set_option maxHeartbeats 4000000
namespace Go.Lw
open Go

def an_word_shapes : Tr := (.node 1 (.ce (.one)) (.node 0 (.ce (.one)) .nil .nil) (.node 2 (.ce (.one)) .nil .nil))

noncomputable def D_word_shapes_0 (pg : Prg)  (gh : List GObj) : Option (IExit × St) := 
  muX (gh ++ [.map []]) 0 (.mp (List.length gh)) (.int .i64 4) (.int .i64 1) fun gh1 => 
  muX gh1 0 (.mp (List.length gh)) (.int .i64 5) (.int .i64 1) fun gh2 => 
  muX gh2 0 (.mp (List.length gh)) (.int .i64 6) (.int .i64 2) fun gh3 => 
  muX gh3 0 (.mp (List.length gh)) (.int .i64 7) (.int .i64 2) fun gh4 => 
  muX gh4 0 (.mp (List.length gh)) (.int .i64 8) (.int .i64 2) fun gh5 => 
  muX gh5 0 (.mp (List.length gh)) (.int .i64 9) (.int .i64 2) fun gh6 => 
  muX gh6 0 (.mp (List.length gh)) (.int .i64 10) (.int .i64 2) fun gh7 => 
  muX gh7 0 (.mp (List.length gh)) (.int .i64 11) (.int .i64 2) fun gh8 => 
  muX gh8 0 (.mp (List.length gh)) (.int .i64 12) (.int .i64 2) fun gh9 => 
  muX gh9 0 (.mp (List.length gh)) (.int .i64 13) (.int .i64 2) fun gh10 => 
  muX gh10 0 (.mp (List.length gh)) (.int .i64 14) (.int .i64 2) fun gh11 => 
  muX gh11 0 (.mp (List.length gh)) (.int .i64 15) (.int .i64 2) fun gh12 => 
  muX gh12 0 (.mp (List.length gh)) (.int .i64 16) (.int .i64 3) fun gh13 => 
  muX gh13 0 (.mp (List.length gh)) (.int .i64 17) (.int .i64 3) fun gh14 => 
  muX gh14 0 (.mp (List.length gh)) (.int .i64 18) (.int .i64 3) fun gh15 => 
  muX gh15 0 (.mp (List.length gh)) (.int .i64 19) (.int .i64 4) fun gh16 => 
  muX gh16 0 (.mp (List.length gh)) (.int .i64 20) (.int .i64 5) fun gh17 => 
  muX gh17 0 (.mp (List.length gh)) (.int .i64 21) (.int .i64 6) fun gh18 => 
  muX gh18 0 (.mp (List.length gh)) (.int .i64 22) (.int .i64 7) fun gh19 => 
  muX gh19 0 (.mp (List.length gh)) (.int .i64 23) (.int .i64 7) fun gh20 => some (.ret, ⟨[(0, (.mp (List.length gh)))], [], gh20⟩)

theorem D_word_shapes_0_ok {pg : Prg} {gh : List GObj}  {e : IExit} {s : St} (h : D_word_shapes_0 pg  gh = some (e, s)) : runL pg f_word_shapes_0 ⟨[], [], gh⟩ = some (e, s) :=
  runX_ok an_word_shapes (Eq.trans (by kernel_rfl) h)

end Go.Lw
end

/-! What the functions of package word come to. -/
section
namespace Go.Lw
open Go

def shapesZ : List (Int × Int) := [(4, 1), (5, 1), (6, 2), (7, 2), (8, 2), (9, 2), (10, 2), (11, 2), (12, 2), (13, 2), (14, 2), (15, 2), (16, 3), (17, 3), (18, 3), (19, 4), (20, 5), (21, 6), (22, 7), (23, 7)]

theorem shapes_eq (gh : List GObj) : callL pg 61 [] gh = some (.mp gh.length, gh ++ [.map (mapI shapesZ)]) := by
  refine callL_fn (fn := f_word_shapes) (s := ⟨[(0, .mp gh.length)], [], gh ++ [.map (mapI shapesZ)]⟩) rfl rfl (D_word_shapes_0_ok ?h) ?r
  case h =>
    rw [D_word_shapes_0, show ([.map []] : List GObj) = [.map (mapI [])] from rfl]
    repeat rw [muX_last]
    rfl
  case r => simp [finish, results, f_word_shapes, resOfs, resOf, resOk]

/-- What an operation's shape is; none. -/
def shapeOf (k : Int) : Option Int :=
  if k < 4 then none else if k < 6 then some 1 else if k < 16 then some 2 else if k < 19 then some 3 else if k = 19 then some 4 else if k = 20 then some 5
  else if k = 21 then some 6 else if k < 24 then some 7 else none

theorem findI_shapes (k : Int) : findI shapesZ k = shapeOf k := by
  by_cases h : 4 ≤ k ∧ k < 24
  · obtain ⟨n, rfl⟩ : ∃ n : Fin 20, k = 4 + (n.val : Int) := ⟨⟨(k - 4).toNat, by omega⟩, by simp; omega⟩
    revert n; decide
  · have : ∀ l : List (Int × Int), (∀ x ∈ l, 4 ≤ x.1 ∧ x.1 < 24) → findI l k = none := by
      intro l
      induction l with
      | nil => intro; rfl
      | cons x l ih =>
        intro hx
        have h1 := hx x (by simp)
        have h2 := ih fun y hy => hx y (by simp [hy])
        obtain ⟨a, u⟩ := x
        rw [findI, if_neg, h2]
        rintro rfl; exact h h1
    rw [this _ (by decide), shapeOf]
    split
    · rfl
    · repeat rw [if_neg (by omega)]

/-- How many words an operation takes. -/
def takesOf (k : Int) : Int :=
  if k < 4 then 0 else if k < 6 then 1 else if k < 19 then 2 else if k = 19 then 3 else if k = 20 then 2 else if k < 24 then 1 else 0

theorem Takes_eq (k : Int) (gh : List GObj) : callL pg 63 [I k] gh = some (I (takesOf k), gh) := by
  have hk : callL pg 63 [I k] gh = some (I (let n := (shapeOf k).getD 0; if n = 0 then 0 else if n = 1 ∨ n = 6 ∨ n = 7 then 1 else if n = 4 then 3 else 2), gh) := by
    have hf := findI_shapes k
    cases hs : shapeOf k with
    | none =>
      rw [hs] at hf
      refine callL_fn (fn := f_word_Takes) (s := ?s0) rfl rfl (D_word_Takes_0_ok ?h0) ?r0
      case h0 => simp [D_word_Takes_0, shapes_eq, hf]; rfl
      case r0 => simp [finish, results, f_word_Takes, resOfs, resOf, resOk]
    | some n =>
      rw [hs] at hf
      by_cases h0 : n = 0
      · refine callL_fn (fn := f_word_Takes) (s := ?s1) rfl rfl (D_word_Takes_0_ok ?h1) ?r1
        case h1 => simp [D_word_Takes_0, shapes_eq, hf, h0]; rfl
        case r1 => simp [finish, results, f_word_Takes, resOfs, resOf, resOk, h0]
      by_cases h1 : n = 1 ∨ n = 6 ∨ n = 7
      · refine callL_fn (fn := f_word_Takes) (s := ⟨[(2, I 1)], [], gh ++ [.map (mapI shapesZ)]⟩) rfl rfl (D_word_Takes_0_ok ?h2) ?r2
        case h2 =>
          have := D_word_Takes_k1_ok (pg := pg) (gh := gh ++ [.map (mapI shapesZ)]) (x5 := n) (b8 := true) (e := .ret) (s := ⟨[(2, I 1)], [], gh ++ [.map (mapI shapesZ)]⟩) rfl
          rcases h1 with rfl | rfl | rfl <;> simp [D_word_Takes_0, shapes_eq, hf, this]
        case r2 => simp [finish, results, f_word_Takes, resOfs, resOf, resOk, h0, h1]
      · by_cases h4 : n = 4
        · refine callL_fn (fn := f_word_Takes) (s := ⟨[(2, I 3)], [], gh ++ [.map (mapI shapesZ)]⟩) rfl rfl (D_word_Takes_0_ok ?h3) ?r3
          case h3 =>
            subst h4
            have := D_word_Takes_k1_ok (pg := pg) (gh := gh ++ [.map (mapI shapesZ)]) (x5 := 4) (b8 := false) (e := .ret) (s := ⟨[(2, I 3)], [], gh ++ [.map (mapI shapesZ)]⟩) rfl
            simp [D_word_Takes_0, shapes_eq, hf, this]
          case r3 => simp [finish, results, f_word_Takes, resOfs, resOf, resOk, h0, h4]
        · simp only [not_or] at h1
          refine callL_fn (fn := f_word_Takes) (s := ⟨[(2, I 2)], [], gh ++ [.map (mapI shapesZ)]⟩) rfl rfl (D_word_Takes_0_ok ?h5) ?r5
          case h5 =>
            have := D_word_Takes_k1_ok (pg := pg) (gh := gh ++ [.map (mapI shapesZ)]) (x5 := n) (b8 := false) (e := .normal) (s := ⟨[(12, B false)], [], gh ++ [.map (mapI shapesZ)]⟩) (by simp [D_word_Takes_k1, h4])
            have h2 := D_word_Takes_k2_ok (pg := pg) (gh := gh ++ [.map (mapI shapesZ)]) (b12 := false) (e := .ret) (s := ⟨[(2, I 2)], [], gh ++ [.map (mapI shapesZ)]⟩) rfl
            simp [D_word_Takes_0, shapes_eq, hf, h0, h1, this, h2]
          case r5 => simp [finish, results, f_word_Takes, resOfs, resOf, resOk, h0, h1, h4]
  rw [hk]
  congr 3
  simp only [shapeOf, takesOf]
  repeat' split
  all_goals first | rfl | omega | simp_all

theorem IsWidth_eq (w : Int) (gh : List GObj) : callL pg 62 [I w] gh = some (B (decide (1 ≤ w ∧ w ≤ 8)), gh) := by
  by_cases h : 1 ≤ w
  · refine callL_fn (fn := f_word_IsWidth) (s := ?s1) rfl rfl (D_word_IsWidth_0_ok ?h1) ?r1
    case h1 => simp [D_word_IsWidth_0, h]; rfl
    case r1 => simp [finish, results, f_word_IsWidth, resOfs, resOf, resOk, h]
  · refine callL_fn (fn := f_word_IsWidth) (s := ?s2) rfl rfl (D_word_IsWidth_0_ok ?h2) ?r2
    case h2 => simp [D_word_IsWidth_0, h]; rfl
    case r2 => simp [finish, results, f_word_IsWidth, resOfs, resOf, resOk, h]

theorem callL_fin {pg : Prg} {f : Nat} {fn : IFunc} {vs : List PV} {gh gh' : List GObj} {s : St} {v : PV} (h : pg f = some (.code fn)) (hl : vs.length = fn.np) (hr : runL pg fn.body ⟨enum 0 vs, [], gh⟩ = some (.ret, s))
    (hf : finish fn gh (.ret, s) = some (v, gh')) : callL pg f vs gh = some (v, gh') := callL_fn h hl hr hf

/-- Are the widths as a shape asks? -/
def fitsOf (s width n w0 w1 w2 : Int) : Bool :=
  if n ≠ 0 ∧ s ≠ 6 then false
  else if s = 1 then w0 = width
  else if s = 2 then w0 = width ∧ w1 = width
  else if s = 3 then w0 = w1 ∧ width = 1
  else if s = 4 then w0 = 1 ∧ w1 = width ∧ w2 = width
  else if s = 5 then IntKind.i64.wrap (w0 + w1) = width
  else if s = 6 then 0 ≤ n ∧ n ≤ IntKind.i64.wrap (w0 - width)
  else w0 ≤ width

theorem fits_eq (s width n w0 w1 w2 : Int) (gh : List GObj) : callL pg 64 [I s, I width, I n, .agg [I w0, I w1, I w2]] gh = some (B (fitsOf s width n w0 w1 w2), gh) := by
  have h : D_word_fits_0 pg s width n w0 w1 w2 gh = some (.ret, ⟨[(8, B (fitsOf s width n w0 w1 w2))], [], gh⟩) := by
    by_cases hn : n = 0
    · by_cases h1 : s = 1
      · simp [D_word_fits_0, fitsOf, hn, h1]
      by_cases h2 : s = 2
      · by_cases h : w0 = width <;> simp [D_word_fits_0, fitsOf, hn, h2, h]
      by_cases h3 : s = 3
      · by_cases h : w0 = w1 <;> simp [D_word_fits_0, fitsOf, hn, h3, h]
      by_cases h4 : s = 4
      · by_cases h : w0 = 1 <;> by_cases h' : w1 = width <;> simp [D_word_fits_0, fitsOf, hn, h4, h, h']
      by_cases h5 : s = 5
      · simp [D_word_fits_0, fitsOf, hn, h5]
      by_cases h6 : s = 6
      · simp [D_word_fits_0, fitsOf, hn, h6]
      simp [D_word_fits_0, fitsOf, hn, h1, h2, h3, h4, h5, h6]
    · by_cases h6 : s = 6
      · by_cases h : 0 ≤ n <;> simp [D_word_fits_0, fitsOf, hn, h6, h]
      · simp [D_word_fits_0, fitsOf, hn, h6]
  refine callL_fn (fn := f_word_fits) rfl rfl (D_word_fits_0_ok h) ?r
  simp [finish, results, f_word_fits, resOfs, resOf, resOk]

/-- May the word at place i be as wide? -/
def wOk (k i w : Int) : Prop := if i < takesOf k then 1 ≤ w ∧ w ≤ 8 else w = 0
instance (k i w : Int) : Decidable (wOk k i w) := inferInstanceAs (Decidable (if i < takesOf k then 1 ≤ w ∧ w ≤ 8 else w = 0))

theorem Fit_b1 (k width n s w0 w1 w2 i w : Int) (gh : List GObj) (hi : (i = 0 ∧ w = w0) ∨ (i = 1 ∧ w = w1) ∨ (i = 2 ∧ w = w2)) :
    D_word_Fit_b1 pg k width n s w0 w1 w2 i w0 w1 w2 gh = if wOk k i w then some (.normal, ⟨[(0, I k), (1, I width), (2, I n), (7, .ptr false 0 0), (9, I s), (24, .agg [I w0, I w1, I w2]), (25, I (i + 1))], [[I w0, I w1, I w2]], gh⟩)
      else some (.ret, ⟨[(8, I 3)], [], gh⟩) := by
  have hw : (IntKind.i64.wrap (i + 1)) = i + 1 := wrap_id (by omega) (by omega)
  by_cases hk : i < takesOf k
  · have hk' := Int.not_le.2 hk
    by_cases h1 : 1 ≤ w
    · by_cases h2 : w ≤ 8
      · rcases hi with ⟨rfl, rfl⟩ | ⟨rfl, rfl⟩ | ⟨rfl, rfl⟩ <;> simp [D_word_Fit_b1, Takes_eq, IsWidth_eq, hk, hk', wOk, h1, h2] <;> exact hw
      · rcases hi with ⟨rfl, rfl⟩ | ⟨rfl, rfl⟩ | ⟨rfl, rfl⟩ <;> simp [D_word_Fit_b1, Takes_eq, IsWidth_eq, hk, wOk, h1, h2]
    · rcases hi with ⟨rfl, rfl⟩ | ⟨rfl, rfl⟩ | ⟨rfl, rfl⟩ <;> simp [D_word_Fit_b1, Takes_eq, IsWidth_eq, hk, wOk, h1]
  · have hk' := Int.not_lt.1 hk
    by_cases h2 : w = 0
    · rcases hi with ⟨rfl, rfl⟩ | ⟨rfl, rfl⟩ | ⟨rfl, rfl⟩ <;> simp [D_word_Fit_b1, Takes_eq, hk, hk', wOk, h2] <;> exact hw
    · rcases hi with ⟨rfl, rfl⟩ | ⟨rfl, rfl⟩ | ⟨rfl, rfl⟩ <;> simp [D_word_Fit_b1, Takes_eq, hk, hk', wOk, h2]

theorem Fit_loop (k width n s w0 w1 w2 : Int) (gh : List GObj) :
    runL pg f_word_Fit_l1 ⟨[(0, I k), (1, I width), (2, I n), (7, .ptr false 0 0), (9, I s), (24, .agg [I w0, I w1, I w2]), (25, I 0)], [[I w0, I w1, I w2]], gh⟩ =
      if wOk k 0 w0 ∧ wOk k 1 w1 ∧ wOk k 2 w2 then some (.normal, ⟨[(1, I width), (2, I n), (7, .ptr false 0 0), (9, I s)], [[I w0, I w1, I w2]], gh⟩) else some (.ret, ⟨[(8, I 3)], [], gh⟩) := by
  have b0 := Fit_b1 k width n s w0 w1 w2 0 w0 gh (by simp)
  have b1 := Fit_b1 k width n s w0 w1 w2 1 w1 gh (by simp)
  have b2 := Fit_b1 k width n s w0 w1 w2 2 w2 gh (by simp)
  by_cases h0 : wOk k 0 w0
  · rw [if_pos h0] at b0
    refine lp_next (D_word_Fit_b1_ok b0) ?_
    by_cases h1 : wOk k 1 w1
    · rw [if_pos h1] at b1
      refine lp_next (D_word_Fit_b1_ok b1) ?_
      by_cases h2 : wOk k 2 w2
      · rw [if_pos h2] at b2
        refine lp_next (D_word_Fit_b1_ok b2) ?_
        rw [if_pos ⟨h0, h1, h2⟩]
        refine (lp_exit (s1 := ?s1) (D_word_Fit_b1_ok ?h1)).trans ?r1
        case h1 => simp [D_word_Fit_b1]; rfl
        case r1 => simp [keep]
      · rw [if_neg h2] at b2
        rw [if_neg (fun h => h2 h.2.2)]
        exact lp_ret (D_word_Fit_b1_ok b2)
    · rw [if_neg h1] at b1
      rw [if_neg (fun h => h1 h.2.1)]
      exact lp_ret (D_word_Fit_b1_ok b1)
  · rw [if_neg h0] at b0
    rw [if_neg (fun h => h0 h.1)]
    exact lp_ret (D_word_Fit_b1_ok b0)

/-- Which error an operation's widths make. -/
def fitE (k width n w0 w1 w2 : Int) : Int :=
  match shapeOf k with
  | none => 7
  | some s => if ¬ (1 ≤ width ∧ width ≤ 8) then 3 else if ¬ (wOk k 0 w0 ∧ wOk k 1 w1 ∧ wOk k 2 w2) then 3 else if fitsOf s width n w0 w1 w2 then 0 else 1

theorem Fit_eq (k width n w0 w1 w2 : Int) (gh : List GObj) : callL pg 22 [I k, I width, I n, .agg [I w0, I w1, I w2]] gh = some (I (fitE k width n w0 w1 w2), gh) := by
  have hf := findI_shapes k
  simp only [fitE]
  cases hs : shapeOf k with
  | none =>
    rw [hs] at hf
    refine callL_fn (fn := f_word_Fit) (s := ?s0) rfl rfl (D_word_Fit_0_ok ?h0) ?r0
    case h0 => simp [D_word_Fit_0, shapes_eq, hf]; rfl
    case r0 => simp [finish, results, f_word_Fit, resOfs, resOf, resOk]
  | some s =>
    rw [hs] at hf
    by_cases hw : 1 ≤ width ∧ width ≤ 8
    · have hl := Fit_loop k width n s w0 w1 w2 (gh ++ [.map (mapI shapesZ)])
      simp only [hw, not_true, if_false, and_self]
      by_cases ho : wOk k 0 w0 ∧ wOk k 1 w1 ∧ wOk k 2 w2
      · rw [if_pos ho] at hl
        simp only [ho, not_true, if_false, and_self]
        have hk : ∀ e s1, D_word_Fit_k1 pg width n s w0 w1 w2 (gh ++ [.map (mapI shapesZ)]) = some (e, s1) → _ := fun e s1 h => D_word_Fit_k1_ok h
        by_cases hb : fitsOf s width n w0 w1 w2
        · have := hk .ret ⟨[(8, I 0)], [], gh ++ [.map (mapI shapesZ)]⟩ (by simp [D_word_Fit_k1, fits_eq, hb])
          refine callL_fn (fn := f_word_Fit) (s := ?s1) rfl rfl (D_word_Fit_0_ok ?h1) ?r1
          case h1 => simp [D_word_Fit_0, shapes_eq, hf, IsWidth_eq, hw, hl, this]; rfl
          case r1 => simp [finish, results, f_word_Fit, resOfs, resOf, resOk, hb]
        · have := hk .ret ⟨[(8, I 1)], [], gh ++ [.map (mapI shapesZ)]⟩ (by simp [D_word_Fit_k1, fits_eq, hb])
          refine callL_fn (fn := f_word_Fit) (s := ?s2) rfl rfl (D_word_Fit_0_ok ?h2) ?r2
          case h2 => simp [D_word_Fit_0, shapes_eq, hf, IsWidth_eq, hw, hl, this]; rfl
          case r2 => simp [finish, results, f_word_Fit, resOfs, resOf, resOk, hb]
      · rw [if_neg ho] at hl
        refine callL_fn (fn := f_word_Fit) (s := ?s3) rfl rfl (D_word_Fit_0_ok ?h3) ?r3
        case h3 => simp [D_word_Fit_0, shapes_eq, hf, IsWidth_eq, hw, hl]; rfl
        case r3 => simp [finish, results, f_word_Fit, resOfs, resOf, resOk, ho]
    · refine callL_fn (fn := f_word_Fit) (s := ?s4) rfl rfl (D_word_Fit_0_ok ?h4) ?r4
      case h4 => simp [D_word_Fit_0, shapes_eq, hf, IsWidth_eq, hw]; rfl
      case r4 => simp [finish, results, f_word_Fit, resOfs, resOf, resOk, hw]

end Go.Lw
end

/-! What the code of function ref_FitOf comes to, piece by piece. Written by program (dprint.py). -/
section
set_option maxRecDepth 10000
set_option maxHeartbeats 4000000
namespace Go.Lw
open Go

def an_ref_FitOf : Tr := (.node 70 (.ce (.bool)) (.node 35 (.ce (.int .i64)) (.node 19 (.ce (.int .i64)) (.node 11 (.ce (.bool)) (.node 3 (.agg [.int .i64, .int .i64, .int .i64]) (.node 1 (.ce (.int .i64)) (.node 0 (.ce (.int .i64)) .nil .nil) (.node 2 (.ce (.int .i64)) .nil .nil)) (.node 9 (.ce (.int .i64)) (.node 8 (.ce (.int .i64)) .nil .nil) (.node 10 (.ce (.int .i64)) .nil .nil))) (.node 15 (.ce (.bool)) (.node 13 (.ce (.int .i64)) (.node 12 (.ce (.int .i64)) .nil .nil) (.node 14 (.ce (.int .i64)) .nil .nil)) (.node 17 (.ce (.bool)) (.node 16 (.ce (.int .i64)) .nil .nil) (.node 18 (.ce (.bool)) .nil .nil)))) (.node 27 (.ce (.int .i64)) (.node 23 (.ce (.int .i64)) (.node 21 (.ce (.int .i64)) (.node 20 (.ce (.bool)) .nil .nil) (.node 22 (.ce (.int .i64)) .nil .nil)) (.node 25 (.ce (.bool)) (.node 24 (.ce (.int .i64)) .nil .nil) (.node 26 (.ce (.bool)) .nil .nil))) (.node 32 (.ce (.bool)) (.node 30 (.ce (.bool)) (.node 29 (.ce (.int .i64)) .nil .nil) (.node 31 (.ce (.bool)) .nil .nil)) (.node 34 (.ce (.int .i64)) (.node 33 (.ce (.bool)) .nil .nil) .nil)))) (.node 52 (.ce (.int .i64)) (.node 44 (.ce (.int .i64)) (.node 40 (.ce (.int .i64)) (.node 37 (.ce (.bool)) (.node 36 (.ce (.bool)) .nil .nil) (.node 38 (.ce (.int .i64)) .nil .nil)) (.node 42 (.ce (.bool)) (.node 41 (.ce (.bool)) .nil .nil) (.node 43 (.ce (.bool)) .nil .nil))) (.node 49 (.ce (.int .i64)) (.node 47 (.ce (.bool)) (.node 46 (.ce (.int .i64)) .nil .nil) (.node 48 (.ce (.bool)) .nil .nil)) (.node 51 (.ce (.bool)) (.node 50 (.ce (.bool)) .nil .nil) .nil))) (.node 61 (.ce (.bool)) (.node 57 (.ce (.int .i64)) (.node 54 (.ce (.bool)) (.node 53 (.ce (.bool)) .nil .nil) (.node 56 (.ce (.int .i64)) .nil .nil)) (.node 59 (.ce (.bool)) (.node 58 (.ce (.bool)) .nil .nil) (.node 60 (.ce (.int .i64)) .nil .nil))) (.node 66 (.ce (.bool)) (.node 64 (.ce (.int .i64)) (.node 63 (.ce (.int .i64)) .nil .nil) (.node 65 (.ce (.bool)) .nil .nil)) (.node 69 (.ce (.int .i64)) (.node 68 (.ce (.int .i64)) .nil .nil) .nil))))) (.node 108 (.ce (.int .i64)) (.node 89 (.ce (.bool)) (.node 80 (.ce (.bool)) (.node 74 (.ce (.bool)) (.node 72 (.ce (.bool)) (.node 71 (.ce (.bool)) .nil .nil) (.node 73 (.ce (.int .i64)) .nil .nil)) (.node 78 (.ce (.int .i64)) (.node 76 (.ce (.int .i64)) .nil .nil) (.node 79 (.ce (.bool)) .nil .nil))) (.node 84 (.ce (.bool)) (.node 82 (.ce (.bool)) (.node 81 (.ce (.int .i64)) .nil .nil) (.node 83 (.ce (.bool)) .nil .nil)) (.node 86 (.ce (.bool)) (.node 85 (.ce (.int .i64)) .nil .nil) (.node 88 (.ce (.int .i64)) .nil .nil)))) (.node 99 (.ce (.int .i64)) (.node 94 (.ce (.bool)) (.node 92 (.ce (.int .i64)) (.node 90 (.ce (.bool)) .nil .nil) (.node 93 (.ce (.int .i64)) .nil .nil)) (.node 96 (.ce (.bool)) (.node 95 (.ce (.bool)) .nil .nil) (.node 98 (.ce (.int .i64)) .nil .nil))) (.node 103 (.ce (.int .i64)) (.node 101 (.ce (.bool)) (.node 100 (.ce (.bool)) .nil .nil) (.node 102 (.ce (.bool)) .nil .nil)) (.node 106 (.ce (.int .i64)) (.node 104 (.ce (.bool)) .nil .nil) .nil)))) (.node 123 (.ce (.int .i64)) (.node 116 (.ce (.bool)) (.node 112 (.ce (.bool)) (.node 110 (.ce (.int .i64)) (.node 109 (.ce (.int .i64)) .nil .nil) (.node 111 (.ce (.bool)) .nil .nil)) (.node 114 (.ce (.bool)) (.node 113 (.ce (.int .i64)) .nil .nil) (.node 115 (.ce (.int .i64)) .nil .nil))) (.node 120 (.ce (.bool)) (.node 118 (.ce (.int .i64)) (.node 117 (.ce (.bool)) .nil .nil) (.node 119 (.ce (.bool)) .nil .nil)) (.node 122 (.ce (.int .i64)) (.node 121 (.ce (.bool)) .nil .nil) .nil))) (.node 132 (.ce (.int .i64)) (.node 128 (.ce (.bool)) (.node 126 (.ce (.int .i64)) (.node 124 (.ce (.int .i64)) .nil .nil) (.node 127 (.ce (.bool)) .nil .nil)) (.node 130 (.ce (.bool)) (.node 129 (.ce (.bool)) .nil .nil) (.node 131 (.ce (.bool)) .nil .nil))) (.node 136 (.ce (.bool)) (.node 134 (.ce (.bool)) (.node 133 (.ce (.bool)) .nil .nil) (.node 135 (.ce (.int .i64)) .nil .nil)) (.node 138 (.ce (.bool)) (.node 137 (.ce (.bool)) .nil .nil) .nil))))))

noncomputable def D_ref_FitOf_b1 (pg : Prg) (x0 : Int) (x1 : Int) (x2 : Int) (x9 : Int) (x10 : Int) (xc0_0 : Int) (xc0_1 : Int) (xc0_2 : Int) (gh : List GObj) : Option (IExit × St) := 
  br 20 (decide (x10 < 3)) (
  br 26 (decide (x10 < x9)) (gd (decide (0 ≤ x10 ∧ x10 < ((3 : Nat) : Int))) (
  ob (grab false 1 (0 + Int.toNat x10 * 1) [(.int .i64 xc0_0), (.int .i64 xc0_1), (.int .i64 xc0_2)]) fun v1 => unI .i64 (degr v1) fun n2 => 
  callR gh true (callL pg 50 [(.int .i64 n2), (.int .i64 1), (.int .i64 8)] gh) fun r3 gh4 => unB r3 fun b5 => 
  br 33 (!b5) (some (.ret, ⟨[(8, (.int .i64 3))], [], gh4⟩)) (
  br 37 (decide (x9 ≤ x10)) (gd (decide (0 ≤ x10 ∧ x10 < ((3 : Nat) : Int))) (
  ob (grab false 1 (0 + Int.toNat x10 * 1) [(.int .i64 xc0_0), (.int .i64 xc0_1), (.int .i64 xc0_2)]) fun v6 => unI .i64 (degr v6) fun n7 => 
  br 43 (n7 != 0) (some (.ret, ⟨[(8, (.int .i64 3))], [], gh4⟩)) (some (.normal, ⟨[(0, (.int .i64 x0)), (1, (.int .i64 x1)), (2, (.int .i64 x2)), (7, (.ptr false 0 0)), (9, (.int .i64 x9)), (10, (.int .i64 (IntKind.i64.wrap (x10 + 1))))], [[(.int .i64 xc0_0), (.int .i64 xc0_1), (.int .i64 xc0_2)]], gh4⟩)))) (some (.normal, ⟨[(0, (.int .i64 x0)), (1, (.int .i64 x1)), (2, (.int .i64 x2)), (7, (.ptr false 0 0)), (9, (.int .i64 x9)), (10, (.int .i64 (IntKind.i64.wrap (x10 + 1))))], [[(.int .i64 xc0_0), (.int .i64 xc0_1), (.int .i64 xc0_2)]], gh4⟩))))) (
  br 37 (decide (x9 ≤ x10)) (gd (decide (0 ≤ x10 ∧ x10 < ((3 : Nat) : Int))) (
  ob (grab false 1 (0 + Int.toNat x10 * 1) [(.int .i64 xc0_0), (.int .i64 xc0_1), (.int .i64 xc0_2)]) fun v8 => unI .i64 (degr v8) fun n9 => 
  br 43 (n9 != 0) (some (.ret, ⟨[(8, (.int .i64 3))], [], gh⟩)) (some (.normal, ⟨[(0, (.int .i64 x0)), (1, (.int .i64 x1)), (2, (.int .i64 x2)), (7, (.ptr false 0 0)), (9, (.int .i64 x9)), (10, (.int .i64 (IntKind.i64.wrap (x10 + 1))))], [[(.int .i64 xc0_0), (.int .i64 xc0_1), (.int .i64 xc0_2)]], gh⟩)))) (some (.normal, ⟨[(0, (.int .i64 x0)), (1, (.int .i64 x1)), (2, (.int .i64 x2)), (7, (.ptr false 0 0)), (9, (.int .i64 x9)), (10, (.int .i64 (IntKind.i64.wrap (x10 + 1))))], [[(.int .i64 xc0_0), (.int .i64 xc0_1), (.int .i64 xc0_2)]], gh⟩)))) (some ((.exit 0), ⟨[(0, (.int .i64 x0)), (1, (.int .i64 x1)), (2, (.int .i64 x2)), (7, (.ptr false 0 0)), (9, (.int .i64 x9)), (10, (.int .i64 x10)), (20, (.bool (decide (x10 < 3))))], [[(.int .i64 xc0_0), (.int .i64 xc0_1), (.int .i64 xc0_2)]], gh⟩))

theorem D_ref_FitOf_b1_ok {pg : Prg} {gh : List GObj} {x0 : Int} {x1 : Int} {x2 : Int} {x9 : Int} {x10 : Int} {xc0_0 : Int} {xc0_1 : Int} {xc0_2 : Int} {e : IExit} {s : St} (h : D_ref_FitOf_b1 pg x0 x1 x2 x9 x10 xc0_0 xc0_1 xc0_2 gh = some (e, s)) : runL pg f_ref_FitOf_b1 ⟨[(0, (.int .i64 x0)), (1, (.int .i64 x1)), (2, (.int .i64 x2)), (7, (.ptr false 0 0)), (9, (.int .i64 x9)), (10, (.int .i64 x10))], [[(.int .i64 xc0_0), (.int .i64 xc0_1), (.int .i64 xc0_2)]], gh⟩ = some (e, s) :=
  runX_ok an_ref_FitOf (Eq.trans (by kernel_rfl) h)

noncomputable def D_ref_FitOf_k2 (pg : Prg) (x0 : Int) (x2 : Int) (b11 : Bool) (gh : List GObj) : Option (IExit × St) := 
  br 131 (!b11) (some (.ret, ⟨[(8, (.int .i64 1))], [], gh⟩)) (
  br 134 (x0 != 21) (
  br 138 (x2 != 0) (some (.ret, ⟨[(8, (.int .i64 1))], [], gh⟩)) (some (.ret, ⟨[(8, (.int .i64 0))], [], gh⟩))) (some (.ret, ⟨[(8, (.int .i64 0))], [], gh⟩)))

theorem D_ref_FitOf_k2_ok {pg : Prg} {gh : List GObj} {x0 : Int} {x2 : Int} {b11 : Bool} {e : IExit} {s : St} (h : D_ref_FitOf_k2 pg x0 x2 b11 gh = some (e, s)) : runL pg f_ref_FitOf_k2 ⟨[(0, (.int .i64 x0)), (2, (.int .i64 x2)), (11, (.bool b11))], [], gh⟩ = some (e, s) :=
  runX_ok an_ref_FitOf (Eq.trans (by kernel_rfl) h)

noncomputable def D_ref_FitOf_k1 (pg : Prg) (x0 : Int) (x1 : Int) (x2 : Int) (xc0_0 : Int) (xc0_1 : Int) (xc0_2 : Int) (gh : List GObj) : Option (IExit × St) := 
  br 51 (x0 == 4) (
  kR (runL pg f_ref_FitOf_k2 ⟨[(0, (.int .i64 x0)), (2, (.int .i64 x2)), (11, (.bool (xc0_0 == x1)))], [], gh⟩) (fun e s => some (e, s))) (
  br 48 (x0 == 5) (
  kR (runL pg f_ref_FitOf_k2 ⟨[(0, (.int .i64 x0)), (2, (.int .i64 x2)), (11, (.bool (xc0_0 == x1)))], [], gh⟩) (fun e s => some (e, s))) (
  callR gh true (callL pg 50 [(.int .i64 x0), (.int .i64 6), (.int .i64 15)] gh) fun r1 gh2 => unB r1 fun b3 => 
  br 59 b3 (
  br 66 (xc0_0 == x1) (
  kR (runL pg f_ref_FitOf_k2 ⟨[(0, (.int .i64 x0)), (2, (.int .i64 x2)), (11, (.bool (xc0_1 == x1)))], [], gh2⟩) (fun e s => some (e, s))) (
  kR (runL pg f_ref_FitOf_k2 ⟨[(0, (.int .i64 x0)), (2, (.int .i64 x2)), (11, (.bool false))], [], gh2⟩) (fun e s => some (e, s)))) (
  callR gh2 true (callL pg 50 [(.int .i64 x0), (.int .i64 16), (.int .i64 18)] gh2) fun r4 gh5 => unB r4 fun b6 => 
  br 72 b6 (
  br 80 (xc0_0 == xc0_1) (
  kR (runL pg f_ref_FitOf_k2 ⟨[(0, (.int .i64 x0)), (2, (.int .i64 x2)), (11, (.bool (x1 == 1)))], [], gh5⟩) (fun e s => some (e, s))) (
  kR (runL pg f_ref_FitOf_k2 ⟨[(0, (.int .i64 x0)), (2, (.int .i64 x2)), (11, (.bool false))], [], gh5⟩) (fun e s => some (e, s)))) (
  br 84 (x0 == 19) (
  br 90 (xc0_0 == 1) (
  br 96 (xc0_1 == x1) (
  kR (runL pg f_ref_FitOf_k2 ⟨[(0, (.int .i64 x0)), (2, (.int .i64 x2)), (11, (.bool (xc0_2 == x1)))], [], gh5⟩) (fun e s => some (e, s))) (
  kR (runL pg f_ref_FitOf_k2 ⟨[(0, (.int .i64 x0)), (2, (.int .i64 x2)), (11, (.bool false))], [], gh5⟩) (fun e s => some (e, s)))) (
  kR (runL pg f_ref_FitOf_k2 ⟨[(0, (.int .i64 x0)), (2, (.int .i64 x2)), (11, (.bool false))], [], gh5⟩) (fun e s => some (e, s)))) (
  br 102 (x0 == 20) (
  kR (runL pg f_ref_FitOf_k2 ⟨[(0, (.int .i64 x0)), (2, (.int .i64 x2)), (11, (.bool ((IntKind.i64.wrap (xc0_0 + xc0_1)) == x1)))], [], gh5⟩) (fun e s => some (e, s))) (
  br 112 (x0 == 21) (
  br 117 (decide (0 ≤ x2)) (
  br 121 (decide (x2 ≤ 8)) (
  kR (runL pg f_ref_FitOf_k2 ⟨[(0, (.int .i64 x0)), (2, (.int .i64 x2)), (11, (.bool (decide ((IntKind.i64.wrap (x2 + x1)) ≤ xc0_0))))], [], gh5⟩) (fun e s => some (e, s))) (
  kR (runL pg f_ref_FitOf_k2 ⟨[(0, (.int .i64 x0)), (2, (.int .i64 x2)), (11, (.bool false))], [], gh5⟩) (fun e s => some (e, s)))) (
  kR (runL pg f_ref_FitOf_k2 ⟨[(0, (.int .i64 x0)), (2, (.int .i64 x2)), (11, (.bool false))], [], gh5⟩) (fun e s => some (e, s)))) (
  kR (runL pg f_ref_FitOf_k2 ⟨[(0, (.int .i64 x0)), (2, (.int .i64 x2)), (11, (.bool (decide (xc0_0 ≤ x1))))], [], gh5⟩) (fun e s => some (e, s)))))))))

theorem D_ref_FitOf_k1_ok {pg : Prg} {gh : List GObj} {x0 : Int} {x1 : Int} {x2 : Int} {xc0_0 : Int} {xc0_1 : Int} {xc0_2 : Int} {e : IExit} {s : St} (h : D_ref_FitOf_k1 pg x0 x1 x2 xc0_0 xc0_1 xc0_2 gh = some (e, s)) : runL pg f_ref_FitOf_k1 ⟨[(0, (.int .i64 x0)), (1, (.int .i64 x1)), (2, (.int .i64 x2)), (7, (.ptr false 0 0))], [[(.int .i64 xc0_0), (.int .i64 xc0_1), (.int .i64 xc0_2)]], gh⟩ = some (e, s) :=
  runX_ok an_ref_FitOf (Eq.trans (by kernel_rfl) h)

noncomputable def D_ref_FitOf_0 (pg : Prg) (x0 : Int) (x1 : Int) (x2 : Int) (x3_0 : Int) (x3_1 : Int) (x3_2 : Int) (gh : List GObj) : Option (IExit × St) := 
  callR gh true (callL pg 26 [(.int .i64 x0)] gh) fun r1 gh2 => unI .i64 r1 fun n3 => 
  br 15 (n3 == 0) (some (.ret, ⟨[(8, (.int .i64 7))], [], gh2⟩)) (
  callR gh2 true (callL pg 50 [(.int .i64 x1), (.int .i64 1), (.int .i64 8)] gh2) fun r4 gh5 => unB r4 fun b6 => 
  br 18 (!b6) (some (.ret, ⟨[(8, (.int .i64 3))], [], gh5⟩)) (
  kR (runL pg f_ref_FitOf_l1 ⟨[(0, (.int .i64 x0)), (1, (.int .i64 x1)), (2, (.int .i64 x2)), (7, (.ptr false 0 0)), (9, (.int .i64 n3)), (10, (.int .i64 0))], [[(.int .i64 x3_0), (.int .i64 x3_1), (.int .i64 x3_2)]], gh5⟩) (fun e s => nx e s (fun e s => some (e, s)) fun s => kR (runL pg f_ref_FitOf_k1 s) (fun e s => some (e, s)))))

theorem D_ref_FitOf_0_ok {pg : Prg} {gh : List GObj} {x0 : Int} {x1 : Int} {x2 : Int} {x3_0 : Int} {x3_1 : Int} {x3_2 : Int} {e : IExit} {s : St} (h : D_ref_FitOf_0 pg x0 x1 x2 x3_0 x3_1 x3_2 gh = some (e, s)) : runL pg f_ref_FitOf_0 ⟨[(0, (.int .i64 x0)), (1, (.int .i64 x1)), (2, (.int .i64 x2)), (3, (.agg [(.int .i64 x3_0), (.int .i64 x3_1), (.int .i64 x3_2)]))], [], gh⟩ = some (e, s) :=
  runX_ok an_ref_FitOf (Eq.trans (by kernel_rfl) h)

end Go.Lw
end

/-! What the code of function ref_Takes comes to, piece by piece. Written by program (dprint.py). -/
section
set_option maxRecDepth 10000
set_option maxHeartbeats 4000000
namespace Go.Lw
open Go

def an_ref_Takes : Tr := (.node 7 (.ce (.bool)) (.node 4 (.ce (.bool)) (.node 2 (.ce (.int .i64)) (.node 0 (.ce (.int .i64)) .nil .nil) (.node 3 (.ce (.int .i64)) .nil .nil)) (.node 6 (.ce (.bool)) (.node 5 (.ce (.bool)) .nil .nil) .nil)) (.node 11 (.ce (.bool)) (.node 9 (.ce (.bool)) (.node 8 (.ce (.bool)) .nil .nil) (.node 10 (.ce (.bool)) .nil .nil)) (.node 13 (.ce (.bool)) (.node 12 (.ce (.int .i64)) .nil .nil) .nil)))

noncomputable def D_ref_Takes_k1 (pg : Prg) (x0 : Int) (x3 : Int) (b4 : Bool) (gh : List GObj) : Option (IExit × St) := 
  br 4 b4 (some (.ret, ⟨[(2, (.int .i64 1))], [], gh⟩)) (
  br 10 (x3 == 19) (some (.ret, ⟨[(2, (.int .i64 3))], [], gh⟩)) (some (.normal, ⟨[(0, (.int .i64 x0)), (10, (.bool (x3 == 19)))], [], gh⟩)))

theorem D_ref_Takes_k1_ok {pg : Prg} {gh : List GObj} {x0 : Int} {x3 : Int} {b4 : Bool} {e : IExit} {s : St} (h : D_ref_Takes_k1 pg x0 x3 b4 gh = some (e, s)) : runL pg f_ref_Takes_k1 ⟨[(0, (.int .i64 x0)), (3, (.int .i64 x3)), (4, (.bool b4))], [], gh⟩ = some (e, s) :=
  runX_ok an_ref_Takes (Eq.trans (by kernel_rfl) h)

noncomputable def D_ref_Takes_k2 (pg : Prg) (x0 : Int) (b10 : Bool) (gh : List GObj) : Option (IExit × St) := 
  callR gh true (callL pg 50 [(.int .i64 x0), (.int .i64 6), (.int .i64 20)] gh) fun r1 gh2 => unB r1 fun b3 => 
  br 13 b3 (some (.ret, ⟨[(2, (.int .i64 2))], [], gh2⟩)) (some (.ret, ⟨[(2, (.int .i64 0))], [], gh2⟩))

theorem D_ref_Takes_k2_ok {pg : Prg} {gh : List GObj} {x0 : Int} {b10 : Bool} {e : IExit} {s : St} (h : D_ref_Takes_k2 pg x0 b10 gh = some (e, s)) : runL pg f_ref_Takes_k2 ⟨[(0, (.int .i64 x0)), (10, (.bool b10))], [], gh⟩ = some (e, s) :=
  runX_ok an_ref_Takes (Eq.trans (by kernel_rfl) h)

noncomputable def D_ref_Takes_0 (pg : Prg) (x0 : Int) (gh : List GObj) : Option (IExit × St) := 
  br 4 (x0 == 4) (
  kR (runL pg f_ref_Takes_k1 ⟨[(0, (.int .i64 x0)), (3, (.int .i64 x0)), (4, (.bool (x0 == 4)))], [], gh⟩) (fun e s => bk 0 e s (fun e s => nx e s (fun e s => some (e, s)) fun s => kR (runL pg f_ref_Takes_k2 s) (fun e s => some (e, s))))) (
  br 4 (x0 == 5) (
  kR (runL pg f_ref_Takes_k1 ⟨[(0, (.int .i64 x0)), (3, (.int .i64 x0)), (4, (.bool (x0 == 5)))], [], gh⟩) (fun e s => bk 0 e s (fun e s => nx e s (fun e s => some (e, s)) fun s => kR (runL pg f_ref_Takes_k2 s) (fun e s => some (e, s))))) (
  br 4 (x0 == 21) (
  kR (runL pg f_ref_Takes_k1 ⟨[(0, (.int .i64 x0)), (3, (.int .i64 x0)), (4, (.bool (x0 == 21)))], [], gh⟩) (fun e s => bk 0 e s (fun e s => nx e s (fun e s => some (e, s)) fun s => kR (runL pg f_ref_Takes_k2 s) (fun e s => some (e, s))))) (
  br 4 (x0 == 22) (
  kR (runL pg f_ref_Takes_k1 ⟨[(0, (.int .i64 x0)), (3, (.int .i64 x0)), (4, (.bool (x0 == 22)))], [], gh⟩) (fun e s => bk 0 e s (fun e s => nx e s (fun e s => some (e, s)) fun s => kR (runL pg f_ref_Takes_k2 s) (fun e s => some (e, s))))) (
  kR (runL pg f_ref_Takes_k1 ⟨[(0, (.int .i64 x0)), (3, (.int .i64 x0)), (4, (.bool (x0 == 23)))], [], gh⟩) (fun e s => bk 0 e s (fun e s => nx e s (fun e s => some (e, s)) fun s => kR (runL pg f_ref_Takes_k2 s) (fun e s => some (e, s))))))))

theorem D_ref_Takes_0_ok {pg : Prg} {gh : List GObj} {x0 : Int} {e : IExit} {s : St} (h : D_ref_Takes_0 pg x0 gh = some (e, s)) : runL pg f_ref_Takes_0 ⟨[(0, (.int .i64 x0))], [], gh⟩ = some (e, s) :=
  runX_ok an_ref_Takes (Eq.trans (by kernel_rfl) h)

end Go.Lw
end

/-! What the code of function ref_between comes to, piece by piece. Written by program (dprint.py). -/
section
set_option maxRecDepth 10000
set_option maxHeartbeats 4000000
namespace Go.Lw
open Go

def an_ref_between : Tr := (.node 9 (.ce (.bool)) (.node 6 (.ce (.bool)) (.node 1 (.ce (.int .i64)) (.node 0 (.ce (.int .i64)) .nil .nil) (.node 2 (.ce (.int .i64)) .nil .nil)) (.node 8 (.ce (.int .i64)) (.node 7 (.ce (.int .i64)) .nil .nil) .nil)) (.node 12 (.ce (.int .i64)) (.node 11 (.ce (.int .i64)) (.node 10 (.ce (.bool)) .nil .nil) .nil) (.node 14 (.ce (.bool)) (.node 13 (.ce (.bool)) .nil .nil) .nil)))

noncomputable def D_ref_between_0 (pg : Prg) (x0 : Int) (x1 : Int) (x2 : Int) (gh : List GObj) : Option (IExit × St) := 
  br 10 (decide (x1 ≤ x0)) (some (.ret, ⟨[(6, (.bool (decide (x0 ≤ x2))))], [], gh⟩)) (some (.ret, ⟨[(6, (.bool false))], [], gh⟩))

theorem D_ref_between_0_ok {pg : Prg} {gh : List GObj} {x0 : Int} {x1 : Int} {x2 : Int} {e : IExit} {s : St} (h : D_ref_between_0 pg x0 x1 x2 gh = some (e, s)) : runL pg f_ref_between_0 ⟨[(0, (.int .i64 x0)), (1, (.int .i64 x1)), (2, (.int .i64 x2))], [], gh⟩ = some (e, s) :=
  runX_ok an_ref_between (Eq.trans (by kernel_rfl) h)

end Go.Lw
end

/-! What the document's functions of words come to. -/
section
namespace Go.Lw
open Go

theorem between_eq (n a b : Int) (gh : List GObj) : callL pg 50 [I n, I a, I b] gh = some (B (decide (a ≤ n ∧ n ≤ b)), gh) := by
  by_cases h : a ≤ n
  · refine callL_fn (fn := f_ref_between) (s := ?s1) rfl rfl (D_ref_between_0_ok ?h1) ?r1
    case h1 => simp [D_ref_between_0, h]; rfl
    case r1 => simp [finish, results, f_ref_between, resOfs, resOf, resOk, h]
  · refine callL_fn (fn := f_ref_between) (s := ?s2) rfl rfl (D_ref_between_0_ok ?h2) ?r2
    case h2 => simp [D_ref_between_0, h]; rfl
    case r2 => simp [finish, results, f_ref_between, resOfs, resOf, resOk, h]

theorem RTakes_eq (k : Int) (gh : List GObj) : callL pg 26 [I k] gh = some (I (takesOf k), gh) := by
  by_cases h1 : k = 4 ∨ k = 5 ∨ k = 21 ∨ k = 22 ∨ k = 23
  · refine callL_fn (fn := f_ref_Takes) (s := ⟨[(2, I 1)], [], gh⟩) rfl rfl (D_ref_Takes_0_ok ?h1) ?r1
    case h1 =>
      have := D_ref_Takes_k1_ok (pg := pg) (gh := gh) (x0 := k) (x3 := k) (b4 := true) (e := .ret) (s := ⟨[(2, I 1)], [], gh⟩) rfl
      rcases h1 with rfl | rfl | rfl | rfl | rfl <;> simp [D_ref_Takes_0, this]
    case r1 =>
      rcases h1 with rfl | rfl | rfl | rfl | rfl <;> simp [finish, results, f_ref_Takes, resOfs, resOf, resOk] <;> rfl
  simp only [not_or] at h1
  by_cases h2 : k = 19
  · refine callL_fn (fn := f_ref_Takes) (s := ⟨[(2, I 3)], [], gh⟩) rfl rfl (D_ref_Takes_0_ok ?h2) ?r2
    case h2 =>
      subst h2
      have := D_ref_Takes_k1_ok (pg := pg) (gh := gh) (x0 := 19) (x3 := 19) (b4 := false) (e := .ret) (s := ⟨[(2, I 3)], [], gh⟩) rfl
      simp [D_ref_Takes_0, this]
    case r2 => subst h2; simp [finish, results, f_ref_Takes, resOfs, resOf, resOk]; rfl
  have hk1 := D_ref_Takes_k1_ok (pg := pg) (gh := gh) (x0 := k) (x3 := k) (b4 := false) (e := .normal) (s := ⟨[(0, I k), (10, B false)], [], gh⟩) (by simp [D_ref_Takes_k1, h2])
  by_cases h3 : 6 ≤ k ∧ k ≤ 20
  · refine callL_fn (fn := f_ref_Takes) (s := ⟨[(2, I 2)], [], gh⟩) rfl rfl (D_ref_Takes_0_ok ?h3) ?r3
    case h3 =>
      have hk2 := D_ref_Takes_k2_ok (pg := pg) (gh := gh) (x0 := k) (b10 := false) (e := .ret) (s := ⟨[(2, I 2)], [], gh⟩) (by simp [D_ref_Takes_k2, between_eq, h3])
      simp [D_ref_Takes_0, h1, hk1, hk2]
    case r3 =>
      have : takesOf k = 2 := by simp only [takesOf]; repeat' split <;> first | omega | rfl
      simp [finish, results, f_ref_Takes, resOfs, resOf, resOk, this]
  · refine callL_fn (fn := f_ref_Takes) (s := ⟨[(2, I 0)], [], gh⟩) rfl rfl (D_ref_Takes_0_ok ?h4) ?r4
    case h4 =>
      have hk2 := D_ref_Takes_k2_ok (pg := pg) (gh := gh) (x0 := k) (b10 := false) (e := .ret) (s := ⟨[(2, I 0)], [], gh⟩) (by simp [D_ref_Takes_k2, between_eq, h3])
      simp [D_ref_Takes_0, h1, hk1, hk2]
    case r4 =>
      have : takesOf k = 0 := by simp only [takesOf]; repeat' split <;> first | omega | rfl
      simp [finish, results, f_ref_Takes, resOfs, resOf, resOk, this]

theorem FitOf_b1 (k width n w0 w1 w2 i w : Int) (gh : List GObj) (hi : (i = 0 ∧ w = w0) ∨ (i = 1 ∧ w = w1) ∨ (i = 2 ∧ w = w2)) :
    D_ref_FitOf_b1 pg k width n (takesOf k) i w0 w1 w2 gh = if wOk k i w then some (.normal, ⟨[(0, I k), (1, I width), (2, I n), (7, .ptr false 0 0), (9, I (takesOf k)), (10, I (i + 1))], [[I w0, I w1, I w2]], gh⟩)
      else some (.ret, ⟨[(8, I 3)], [], gh⟩) := by
  have hw : (IntKind.i64.wrap (i + 1)) = i + 1 := wrap_id (by omega) (by omega)
  by_cases hk : i < takesOf k
  · have hk' := Int.not_le.2 hk
    by_cases h1 : 1 ≤ w
    · by_cases h2 : w ≤ 8
      · rcases hi with ⟨rfl, rfl⟩ | ⟨rfl, rfl⟩ | ⟨rfl, rfl⟩ <;> simp [D_ref_FitOf_b1, between_eq, hk, hk', wOk, h1, h2] <;> exact hw
      · rcases hi with ⟨rfl, rfl⟩ | ⟨rfl, rfl⟩ | ⟨rfl, rfl⟩ <;> simp [D_ref_FitOf_b1, between_eq, hk, wOk, h1, h2]
    · rcases hi with ⟨rfl, rfl⟩ | ⟨rfl, rfl⟩ | ⟨rfl, rfl⟩ <;> simp [D_ref_FitOf_b1, between_eq, hk, wOk, h1]
  · have hk' := Int.not_lt.1 hk
    by_cases h2 : w = 0
    · rcases hi with ⟨rfl, rfl⟩ | ⟨rfl, rfl⟩ | ⟨rfl, rfl⟩ <;> simp [D_ref_FitOf_b1, hk, hk', wOk, h2] <;> exact hw
    · rcases hi with ⟨rfl, rfl⟩ | ⟨rfl, rfl⟩ | ⟨rfl, rfl⟩ <;> simp [D_ref_FitOf_b1, hk, hk', wOk, h2]

theorem FitOf_loop (k width n w0 w1 w2 : Int) (gh : List GObj) :
    runL pg f_ref_FitOf_l1 ⟨[(0, I k), (1, I width), (2, I n), (7, .ptr false 0 0), (9, I (takesOf k)), (10, I 0)], [[I w0, I w1, I w2]], gh⟩ =
      if wOk k 0 w0 ∧ wOk k 1 w1 ∧ wOk k 2 w2 then some (.normal, ⟨[(0, I k), (1, I width), (2, I n), (7, .ptr false 0 0)], [[I w0, I w1, I w2]], gh⟩) else some (.ret, ⟨[(8, I 3)], [], gh⟩) := by
  have b0 := FitOf_b1 k width n w0 w1 w2 0 w0 gh (by simp)
  have b1 := FitOf_b1 k width n w0 w1 w2 1 w1 gh (by simp)
  have b2 := FitOf_b1 k width n w0 w1 w2 2 w2 gh (by simp)
  by_cases h0 : wOk k 0 w0
  · rw [if_pos h0] at b0
    refine lp_next (D_ref_FitOf_b1_ok b0) ?_
    by_cases h1 : wOk k 1 w1
    · rw [if_pos h1] at b1
      refine lp_next (D_ref_FitOf_b1_ok b1) ?_
      by_cases h2 : wOk k 2 w2
      · rw [if_pos h2] at b2
        refine lp_next (D_ref_FitOf_b1_ok b2) ?_
        rw [if_pos ⟨h0, h1, h2⟩]
        refine (lp_exit (s1 := ?s1) (D_ref_FitOf_b1_ok ?h1)).trans ?r1
        case h1 => simp [D_ref_FitOf_b1]; rfl
        case r1 => simp [keep]
      · rw [if_neg h2] at b2
        rw [if_neg (fun h => h2 h.2.2)]
        exact lp_ret (D_ref_FitOf_b1_ok b2)
    · rw [if_neg h1] at b1
      rw [if_neg (fun h => h1 h.2.1)]
      exact lp_ret (D_ref_FitOf_b1_ok b1)
  · rw [if_neg h0] at b0
    rw [if_neg (fun h => h0 h.1)]
    exact lp_ret (D_ref_FitOf_b1_ok b0)

theorem FitOf_k2 (k n : Int) (b : Bool) (gh : List GObj) :
    runL pg f_ref_FitOf_k2 ⟨[(0, I k), (2, I n), (11, B b)], [], gh⟩ = some (.ret, ⟨[(8, I (if b = false ∨ (k ≠ 21 ∧ n ≠ 0) then 1 else 0))], [], gh⟩) := by
  refine D_ref_FitOf_k2_ok ?_
  cases b
  · simp [D_ref_FitOf_k2]
  · by_cases h1 : k = 21
    · simp [D_ref_FitOf_k2, h1]
    · by_cases h2 : n = 0 <;> simp [D_ref_FitOf_k2, h1, h2]

theorem FitOf_k1 (k width n w0 w1 w2 s : Int) (gh : List GObj) (hs : shapeOf k = some s) (hw : 1 ≤ width ∧ width ≤ 8) (h0 : wOk k 0 w0) (h1 : wOk k 1 w1) :
    runL pg f_ref_FitOf_k1 ⟨[(0, I k), (1, I width), (2, I n), (7, .ptr false 0 0)], [[I w0, I w1, I w2]], gh⟩ = some (.ret, ⟨[(8, I (if fitsOf s width n w0 w1 w2 then 0 else 1))], [], gh⟩) := by
  refine D_ref_FitOf_k1_ok ?_
  by_cases c1 : k = 4
  · subst c1; cases hs
    simp [D_ref_FitOf_k1, FitOf_k2, fitsOf]
    by_cases hn : n = 0 <;> by_cases hh : w0 = width <;> simp [hn, hh]
  by_cases c2 : k = 5
  · subst c2; cases hs
    simp [D_ref_FitOf_k1, FitOf_k2, fitsOf]
    by_cases hn : n = 0 <;> by_cases hh : w0 = width <;> simp [hn, hh]
  by_cases c3 : 6 ≤ k ∧ k ≤ 15
  · have : s = 2 := by
      simp only [shapeOf] at hs
      rw [if_neg (by omega), if_neg (by omega), if_pos (by omega)] at hs; cases hs; rfl
    subst this
    have hk : k ≠ 21 := by omega
    by_cases hn : n = 0 <;> by_cases hh : w0 = width <;> by_cases hh2 : w1 = width <;> simp [D_ref_FitOf_k1, FitOf_k2, between_eq, fitsOf, c1, c2, c3, hk, hn, hh, hh2]
  by_cases c4 : 16 ≤ k ∧ k ≤ 18
  · have : s = 3 := by
      simp only [shapeOf] at hs
      rw [if_neg (by omega), if_neg (by omega), if_neg (by omega), if_pos (by omega)] at hs; cases hs; rfl
    subst this
    have hk : k ≠ 21 := by omega
    by_cases hn : n = 0 <;> by_cases hh : w0 = w1 <;> by_cases hh2 : width = 1 <;> simp [D_ref_FitOf_k1, FitOf_k2, between_eq, fitsOf, c1, c2, c3, c4, hk, hn, hh, hh2]
  by_cases c5 : k = 19
  · subst c5; cases hs
    by_cases hn : n = 0 <;> by_cases hh : w0 = 1 <;> by_cases hh2 : w1 = width <;> by_cases hh3 : w2 = width <;> simp [D_ref_FitOf_k1, FitOf_k2, between_eq, fitsOf, hn, hh, hh2, hh3]
  by_cases c6 : k = 20
  · subst c6; cases hs
    by_cases hn : n = 0 <;> by_cases hh : IntKind.i64.wrap (w0 + w1) = width <;> simp [D_ref_FitOf_k1, FitOf_k2, between_eq, fitsOf, hn, hh]
  by_cases c7 : k = 21
  · subst c7; cases hs
    have hw0 : 1 ≤ w0 ∧ w0 ≤ 8 := h0
    have e1 : IntKind.i64.wrap (w0 - width) = w0 - width := wrap_id (by omega) (by omega)
    by_cases hn : 0 ≤ n
    · by_cases hn2 : n ≤ 8
      · have e2 : IntKind.i64.wrap (n + width) = n + width := wrap_id (by omega) (by omega)
        by_cases hh : n + width ≤ w0
        · simp [D_ref_FitOf_k1, FitOf_k2, between_eq, fitsOf, hn, hn2, e1, e2, hh, show n ≤ w0 - width by omega]
        · simp [D_ref_FitOf_k1, FitOf_k2, between_eq, fitsOf, hn, hn2, e1, e2, hh, show ¬ n ≤ w0 - width by omega]
      · simp [D_ref_FitOf_k1, FitOf_k2, between_eq, fitsOf, hn, hn2, e1, show ¬ n ≤ w0 - width by omega]
    · simp [D_ref_FitOf_k1, FitOf_k2, between_eq, fitsOf, hn]
  · have : s = 7 := by
      simp only [shapeOf] at hs
      repeat' split at hs
      all_goals first | (exfalso; omega) | (cases hs; done) | (cases hs; rfl)
    subst this
    by_cases hn : n = 0 <;> by_cases hh : w0 ≤ width <;> simp [D_ref_FitOf_k1, FitOf_k2, between_eq, fitsOf, c1, c2, c3, c4, c5, c6, c7, hn, hh]

theorem takes_zero (k : Int) : takesOf k = 0 ↔ shapeOf k = none := by
  simp only [takesOf, shapeOf]
  constructor
  · intro h; repeat' split
    all_goals first | rfl | (exfalso; revert h; repeat' split) <;> omega
  · intro h; repeat' split
    all_goals first | rfl | (exfalso; revert h; repeat' split) <;> first | omega | simp

theorem FitOf_eq (k width n w0 w1 w2 : Int) (gh : List GObj) : callL pg 23 [I k, I width, I n, .agg [I w0, I w1, I w2]] gh = some (I (fitE k width n w0 w1 w2), gh) := by
  simp only [fitE]
  cases hs : shapeOf k with
  | none =>
    refine callL_fn (fn := f_ref_FitOf) (s := ?s0) rfl rfl (D_ref_FitOf_0_ok ?h0) ?r0
    case h0 => simp [D_ref_FitOf_0, RTakes_eq, (takes_zero k).2 hs]; rfl
    case r0 => simp [finish, results, f_ref_FitOf, resOfs, resOf, resOk]
  | some s =>
    have ht : takesOf k ≠ 0 := fun h => by rw [takes_zero, hs] at h; cases h
    by_cases hw : 1 ≤ width ∧ width ≤ 8
    · have hl := FitOf_loop k width n w0 w1 w2 gh
      simp only [hw, not_true, if_false, and_self]
      by_cases ho : wOk k 0 w0 ∧ wOk k 1 w1 ∧ wOk k 2 w2
      · rw [if_pos ho] at hl
        have hk := FitOf_k1 k width n w0 w1 w2 s gh hs hw ho.1 ho.2.1
        simp only [ho, not_true, if_false, and_self]
        refine callL_fn (fn := f_ref_FitOf) (s := ?s1) rfl rfl (D_ref_FitOf_0_ok ?h1) ?r1
        case h1 => simp [D_ref_FitOf_0, RTakes_eq, ht, between_eq, hw, hl, hk]; rfl
        case r1 => simp [finish, results, f_ref_FitOf, resOfs, resOf, resOk]
      · rw [if_neg ho] at hl
        refine callL_fn (fn := f_ref_FitOf) (s := ?s3) rfl rfl (D_ref_FitOf_0_ok ?h3) ?r3
        case h3 => simp [D_ref_FitOf_0, RTakes_eq, ht, between_eq, hw, hl]; rfl
        case r3 => simp [finish, results, f_ref_FitOf, resOfs, resOf, resOk, ho]
    · refine callL_fn (fn := f_ref_FitOf) (s := ?s4) rfl rfl (D_ref_FitOf_0_ok ?h4) ?r4
      case h4 => simp [D_ref_FitOf_0, RTakes_eq, ht, between_eq, hw]; rfl
      case r4 => simp [finish, results, f_ref_FitOf, resOfs, resOf, resOk, hw]

end Go.Lw
end

/-! What the code of function ref_Num comes to, piece by piece. Written by program (dprint.py). -/
section
set_option maxRecDepth 10000
set_option maxHeartbeats 4000000
namespace Go.Lw
open Go

def an_ref_Num : Tr := (.node 9 (.ce (.int .i64)) (.node 5 (.ce (.int .i64)) (.node 1 (.ce (.int .i64)) (.node 0 (.ce (.int .i64)) .nil .nil) (.node 4 (.ce (.int .i64)) .nil .nil)) (.node 7 (.ce (.int .i64)) (.node 6 (.ce (.int .i64)) .nil .nil) (.node 8 (.ce (.int .i64)) .nil .nil))) (.node 13 (.ce (.int .i64)) (.node 11 (.ce (.int .i64)) (.node 10 (.ce (.int .i64)) .nil .nil) (.node 12 (.ce (.bool)) .nil .nil)) (.node 15 (.ce (.int .i64)) (.node 14 (.ce (.int .i64)) .nil .nil) .nil)))

noncomputable def D_ref_Num_0 (pg : Prg) (x0 : Int) (x1 : Int) (gh : List GObj) : Option (IExit × St) := gd (decide ((2 : Int) ≠ 0)) (gd (decide ((2 : Int) ≠ 0)) (
  br 12 ((Int.tmod x0 2) == 1) (some (.ret, ⟨[(4, (.int .i64 (IntKind.i64.wrap (0 - (IntKind.i64.wrap ((IntKind.i64.wrap (Int.tdiv x0 2)) + x1))))))], [], gh⟩)) (some (.ret, ⟨[(4, (.int .i64 (IntKind.i64.wrap ((IntKind.i64.wrap (Int.tdiv x0 2)) + x1))))], [], gh⟩))))

theorem D_ref_Num_0_ok {pg : Prg} {gh : List GObj} {x0 : Int} {x1 : Int} {e : IExit} {s : St} (h : D_ref_Num_0 pg x0 x1 gh = some (e, s)) : runL pg f_ref_Num_0 ⟨[(0, (.int .i64 x0)), (1, (.int .i64 x1))], [], gh⟩ = some (e, s) :=
  runX_ok an_ref_Num (Eq.trans (by kernel_rfl) h)

end Go.Lw
end

/-! What the code of function ref_AndClauses comes to, piece by piece. Written by program (dprint.py). -/
section
set_option maxRecDepth 10000
set_option maxHeartbeats 4000000
namespace Go.Lw
open Go

def an_ref_AndClauses : Tr := (.node 31 (.ce (.int .i64)) (.node 15 (.ce (.int .i64)) (.node 8 (.ce (.int .i64)) (.node 5 (.ce (.one)) (.node 1 (.ce (.int .i64)) (.node 0 (.agg [.int .i64, .any]) .nil .nil) (.node 4 (.ce (.one)) .nil .nil)) (.node 7 (.ce (.int .i64)) (.node 6 (.ce (.int .i64)) .nil .nil) .nil)) (.node 12 (.ce (.one)) (.node 10 (.ce (.int .i64)) (.node 9 (.ce (.int .i64)) .nil .nil) .nil) (.node 14 (.ce (.bool)) (.node 13 (.ce (.int .i64)) .nil .nil) .nil))) (.node 22 (.ce (.int .i64)) (.node 19 (.ce (.int .i64)) (.node 18 (.ce (.int .i64)) (.node 16 (.ce (.int .i64)) .nil .nil) .nil) (.node 21 (.ce (.int .i64)) (.node 20 (.ce (.int .i64)) .nil .nil) .nil)) (.node 26 (.ce (.int .i64)) (.node 25 (.ce (.one)) (.node 23 (.ce (.int .i64)) .nil .nil) .nil) (.node 30 (.ce (.int .i64)) (.node 29 (.ce (.int .i64)) .nil .nil) .nil)))) (.node 46 (.ce (.int .i64)) (.node 40 (.ce (.one)) (.node 37 (.ce (.int .i64)) (.node 34 (.ce (.int .i64)) (.node 33 (.ce (.one)) .nil .nil) .nil) (.node 39 (.ce (.int .i64)) (.node 38 (.ce (.int .i64)) .nil .nil) .nil)) (.node 43 (.ce (.int .i64)) (.node 42 (.ce (.int .i64)) (.node 41 (.ce (.int .i64)) .nil .nil) .nil) (.node 45 (.ce (.int .i64)) (.node 44 (.ce (.one)) .nil .nil) .nil))) (.node 52 (.ce (.int .i64)) (.node 49 (.ce (.int .i64)) (.node 48 (.ce (.one)) (.node 47 (.ce (.int .i64)) .nil .nil) .nil) (.node 51 (.ce (.int .i64)) (.node 50 (.ce (.int .i64)) .nil .nil) .nil)) (.node 55 (.ce (.one)) (.node 54 (.ce (.one)) (.node 53 (.ce (.int .i64)) .nil .nil) .nil) (.node 57 (.ce (.one)) (.node 56 (.ce (.one)) .nil .nil) .nil)))))

noncomputable def D_ref_AndClauses_b1 (pg : Prg) (x1 : Int) (v5 : PV) (x6 : Int) (xc0_0 : Int) (vc0_1 : PV) (gh : List GObj) : Option (IExit × St) := isC (degr vc0_1) (lenS (degr (degr vc0_1)) fun n1 => stK 1 v5 (
  br 14 (decide (x6 < (n1 : Int))) (stK 1 v5 (isC (degr vc0_1) (
  idX 2 none (degr (degr vc0_1)) x6 fun p2 => 
  idX 1 (some 2) (degr p2) 0 fun p3 => 
  ldX [[(.int .i64 xc0_0), vc0_1]] gh false 1 (degr p3) fun v4 => unI .i64 v4 fun n5 => 
  callR gh true (callL pg 92 [(.int .i64 n5), (.int .i64 x1)] gh) fun r6 gh7 => unI .i64 r6 fun n8 => isC (degr vc0_1) (
  idX 2 none (degr (degr vc0_1)) x6 fun p9 => 
  idX 1 (some 2) (degr p9) 1 fun p10 => 
  ldX [[(.int .i64 xc0_0), vc0_1]] gh7 false 1 (degr p10) fun v11 => unI .i64 v11 fun n12 => 
  callR gh7 true (callL pg 92 [(.int .i64 n12), (.int .i64 x1)] gh7) fun r13 gh14 => unI .i64 r13 fun n15 => stK 1 v5 (
  apX 1 24 v5 (.sl false 1 [(.sl false 1 [(.int .i64 (IntKind.i64.wrap (0 - (IntKind.i64.wrap ((IntKind.i64.wrap ((IntKind.i64.wrap (1 + xc0_0)) + x6)) + x1))))), (.int .i64 n8)]), (.sl false 1 [(.int .i64 (IntKind.i64.wrap (0 - (IntKind.i64.wrap ((IntKind.i64.wrap ((IntKind.i64.wrap (1 + xc0_0)) + x6)) + x1))))), (.int .i64 n15)]), (.sl false 1 [(.int .i64 (IntKind.i64.wrap ((IntKind.i64.wrap ((IntKind.i64.wrap (1 + xc0_0)) + x6)) + x1))), (.int .i64 (IntKind.i64.wrap (0 - n8))), (.int .i64 (IntKind.i64.wrap (0 - n15)))])]) fun l16 => some (.normal, ⟨[(1, (.int .i64 x1)), (2, (.ptr false 0 0)), (5, (.sl true 1 l16)), (6, (.int .i64 (IntKind.i64.wrap (x6 + 1))))], [[(.int .i64 xc0_0), vc0_1]], gh14⟩)))))) (some ((.exit 0), ⟨[(1, (.int .i64 x1)), (2, (.ptr false 0 0)), (5, v5), (6, (.int .i64 x6)), (14, (.bool (decide (x6 < (n1 : Int)))))], [[(.int .i64 xc0_0), vc0_1]], gh⟩))))

theorem D_ref_AndClauses_b1_ok {pg : Prg} {gh : List GObj} {x1 : Int} {v5 : PV} {x6 : Int} {xc0_0 : Int} {vc0_1 : PV} {e : IExit} {s : St} (h : D_ref_AndClauses_b1 pg x1 v5 x6 xc0_0 vc0_1 gh = some (e, s)) : runL pg f_ref_AndClauses_b1 ⟨[(1, (.int .i64 x1)), (2, (.ptr false 0 0)), (5, v5), (6, (.int .i64 x6))], [[(.int .i64 xc0_0), vc0_1]], gh⟩ = some (e, s) :=
  runX_ok an_ref_AndClauses (Eq.trans (by kernel_rfl) h)

noncomputable def D_ref_AndClauses_k1 (pg : Prg) (v5 : PV) (gh : List GObj) : Option (IExit × St) := stK 0 v5 (some (.ret, ⟨[(4, v5)], [], gh⟩))

theorem D_ref_AndClauses_k1_ok {pg : Prg} {gh : List GObj} {v5 : PV} {e : IExit} {s : St} (h : D_ref_AndClauses_k1 pg v5 gh = some (e, s)) : runL pg f_ref_AndClauses_k1 ⟨[(5, v5)], [], gh⟩ = some (e, s) :=
  runX_ok an_ref_AndClauses (Eq.trans (by kernel_rfl) h)

noncomputable def D_ref_AndClauses_0 (pg : Prg) (x0_0 : Int) (v0_1 : PV) (x1 : Int) (gh : List GObj) : Option (IExit × St) := onK (degr1 v0_1) (
  kR (runL pg f_ref_AndClauses_l1 ⟨[(1, (.int .i64 x1)), (2, (.ptr false 0 0)), (5, (.sl true 1 [])), (6, (.int .i64 0))], [[(.int .i64 x0_0), (degr1 v0_1)]], gh⟩) (fun e s => nx e s (fun e s => some (e, s)) fun s => kR (runL pg f_ref_AndClauses_k1 s) (fun e s => some (e, s))))

theorem D_ref_AndClauses_0_ok {pg : Prg} {gh : List GObj} {x0_0 : Int} {v0_1 : PV} {x1 : Int} {e : IExit} {s : St} (h : D_ref_AndClauses_0 pg x0_0 v0_1 x1 gh = some (e, s)) : runL pg f_ref_AndClauses_0 ⟨[(0, (.agg [(.int .i64 x0_0), v0_1])), (1, (.int .i64 x1))], [], gh⟩ = some (e, s) :=
  runX_ok an_ref_AndClauses (Eq.trans (by kernel_rfl) h)

end Go.Lw
end

/-! What the code of function ref_MustClauses comes to, piece by piece. Written by program (dprint.py). -/
section
set_option maxRecDepth 10000
set_option maxHeartbeats 4000000
namespace Go.Lw
open Go

def an_ref_MustClauses : Tr := (.node 8 (.ce (.bool)) (.node 5 (.ce (.int .i64)) (.node 1 (.ce (.int .i64)) (.node 0 (.ce (.int .i64)) .nil .nil) (.node 4 (.ce (.one)) .nil .nil)) (.node 7 (.ce (.int .i64)) (.node 6 (.ce (.bool)) .nil .nil) .nil)) (.node 12 (.ce (.int .i64)) (.node 10 (.ce (.int .i64)) (.node 9 (.ce (.one)) .nil .nil) (.node 11 (.ce (.int .i64)) .nil .nil)) (.node 14 (.ce (.one)) (.node 13 (.ce (.one)) .nil .nil) .nil)))

noncomputable def D_ref_MustClauses_0 (pg : Prg) (x0 : Int) (x1 : Int) (gh : List GObj) : Option (IExit × St) := 
  br 6 (x0 == 1) (some (.ret, ⟨[(4, (.sl true 1 []))], [], gh⟩)) (
  br 8 (x0 == 0) (some (.ret, ⟨[(4, (.sl true 1 [(.sl false 1 [])]))], [], gh⟩)) (
  callR gh true (callL pg 92 [(.int .i64 x0), (.int .i64 x1)] gh) fun r1 gh2 => unI .i64 r1 fun n3 => some (.ret, ⟨[(4, (.sl true 1 [(.sl false 1 [(.int .i64 n3)])]))], [], gh2⟩)))

theorem D_ref_MustClauses_0_ok {pg : Prg} {gh : List GObj} {x0 : Int} {x1 : Int} {e : IExit} {s : St} (h : D_ref_MustClauses_0 pg x0 x1 gh = some (e, s)) : runL pg f_ref_MustClauses_0 ⟨[(0, (.int .i64 x0)), (1, (.int .i64 x1))], [], gh⟩ = some (e, s) :=
  runX_ok an_ref_MustClauses (Eq.trans (by kernel_rfl) h)

end Go.Lw
end

/-! What the code of function ref_CheckClause comes to, piece by piece. Written by program (dprint.py). -/
section
set_option maxRecDepth 10000
set_option maxHeartbeats 4000000
namespace Go.Lw
open Go

def an_ref_CheckClause : Tr := (.node 19 (.ce (.bool)) (.node 10 (.ce (.one)) (.node 6 (.ce (.one)) (.node 4 (.ce (.int .i64)) (.node 1 (.ce (.one)) (.node 0 (.ce (.int .i64)) .nil .nil) .nil) (.node 5 (.ce (.int .i64)) .nil .nil)) (.node 8 (.ce (.bool)) (.node 7 (.ce (.int .i64)) .nil .nil) (.node 9 (.ce (.int .i64)) .nil .nil))) (.node 14 (.ce (.int .i64)) (.node 12 (.ce (.bool)) (.node 11 (.ce (.int .i64)) .nil .nil) (.node 13 (.ce (.int .i64)) .nil .nil)) (.node 16 (.ce (.int .i64)) (.node 15 (.ce (.one)) .nil .nil) (.node 18 (.ce (.int .i64)) .nil .nil)))) (.node 28 (.ce (.bool)) (.node 24 (.ce (.int .i64)) (.node 21 (.ce (.one)) (.node 20 (.ce (.bool)) .nil .nil) (.node 22 (.ce (.int .i64)) .nil .nil)) (.node 26 (.ce (.bool)) (.node 25 (.ce (.int .i64)) .nil .nil) (.node 27 (.ce (.bool)) .nil .nil))) (.node 33 (.ce (.int .i64)) (.node 30 (.ce (.int .i64)) (.node 29 (.ce (.one)) .nil .nil) (.node 32 (.ce (.int .i64)) .nil .nil)) (.node 35 (.ce (.bool)) (.node 34 (.ce (.int .i64)) .nil .nil) (.node 36 (.ce (.bool)) .nil .nil)))))

noncomputable def D_ref_CheckClause_b1 (pg : Prg) (x0 : Int) (v1 : PV) (x5 : Int) (gh : List GObj) : Option (IExit × St) := isC (degr v1) (lenS (degr (degr v1)) fun n1 => stK 0 v1 (
  br 12 (decide (x5 < (n1 : Int))) (isC (degr v1) (
  idX 1 none (degr (degr v1)) x5 fun p2 => 
  ldX [] gh false 1 (degr p2) fun v3 => unI .i64 v3 fun n4 => 
  br 20 (n4 == 0) (stK 0 v1 (some (.ret, ⟨[(4, (.int .i64 5))], [], gh⟩))) (isC (degr v1) (
  idX 1 none (degr (degr v1)) x5 fun p5 => 
  ldX [] gh false 1 (degr p5) fun v6 => unI .i64 v6 fun n7 => 
  br 28 (decide (x0 < n7)) (stK 0 v1 (some (.ret, ⟨[(4, (.int .i64 5))], [], gh⟩))) (isC (degr v1) (
  idX 1 none (degr (degr v1)) x5 fun p8 => 
  ldX [] gh false 1 (degr p8) fun v9 => unI .i64 v9 fun n10 => stK 0 v1 (
  br 36 (decide (n10 < (IntKind.i64.wrap (0 - x0)))) (some (.ret, ⟨[(4, (.int .i64 5))], [], gh⟩)) (stK 0 v1 (stK 0 v1 (some (.normal, ⟨[(0, (.int .i64 x0)), (1, v1), (5, (.int .i64 (IntKind.i64.wrap (x5 + 1))))], [], gh⟩))))))))))) (some ((.exit 0), ⟨[(0, (.int .i64 x0)), (1, v1), (5, (.int .i64 x5)), (12, (.bool (decide (x5 < (n1 : Int)))))], [], gh⟩))))

theorem D_ref_CheckClause_b1_ok {pg : Prg} {gh : List GObj} {x0 : Int} {v1 : PV} {x5 : Int} {e : IExit} {s : St} (h : D_ref_CheckClause_b1 pg x0 v1 x5 gh = some (e, s)) : runL pg f_ref_CheckClause_b1 ⟨[(0, (.int .i64 x0)), (1, v1), (5, (.int .i64 x5))], [], gh⟩ = some (e, s) :=
  runX_ok an_ref_CheckClause (Eq.trans (by kernel_rfl) h)

noncomputable def D_ref_CheckClause_k1 (pg : Prg)  (gh : List GObj) : Option (IExit × St) := some (.ret, ⟨[(4, (.int .i64 0))], [], gh⟩)

theorem D_ref_CheckClause_k1_ok {pg : Prg} {gh : List GObj}  {e : IExit} {s : St} (h : D_ref_CheckClause_k1 pg  gh = some (e, s)) : runL pg f_ref_CheckClause_k1 ⟨[], [], gh⟩ = some (e, s) :=
  runX_ok an_ref_CheckClause (Eq.trans (by kernel_rfl) h)

noncomputable def D_ref_CheckClause_0 (pg : Prg) (x0 : Int) (v1 : PV) (gh : List GObj) : Option (IExit × St) := stK 0 v1 (isC (degr v1) (lenS (degr (degr v1)) fun n1 => stK 0 v1 (
  br 8 (decide (200 < (n1 : Int))) (some (.ret, ⟨[(4, (.int .i64 2))], [], gh⟩)) (stK 0 v1 (
  kR (runL pg f_ref_CheckClause_l1 ⟨[(0, (.int .i64 x0)), (1, v1), (5, (.int .i64 0))], [], gh⟩) (fun e s => nx e s (fun e s => some (e, s)) fun s => kR (runL pg f_ref_CheckClause_k1 s) (fun e s => some (e, s))))))))

theorem D_ref_CheckClause_0_ok {pg : Prg} {gh : List GObj} {x0 : Int} {v1 : PV} {e : IExit} {s : St} (h : D_ref_CheckClause_0 pg x0 v1 gh = some (e, s)) : runL pg f_ref_CheckClause_0 ⟨[(0, (.int .i64 x0)), (1, v1)], [], gh⟩ = some (e, s) :=
  runX_ok an_ref_CheckClause (Eq.trans (by kernel_rfl) h)

end Go.Lw
end

/-! What the code of function ref_CheckClauses comes to, piece by piece. Written by program (dprint.py). -/
section
set_option maxRecDepth 10000
set_option maxHeartbeats 4000000
namespace Go.Lw
open Go

def an_ref_CheckClauses : Tr := (.node 16 (.ce (.int .i64)) (.node 8 (.ce (.bool)) (.node 4 (.ce (.int .i64)) (.node 2 (.ce (.int .i64)) (.node 0 (.agg [.int .i64, .any]) .nil .nil) (.node 3 (.ce (.int .i64)) .nil .nil)) (.node 7 (.ce (.bool)) (.node 6 (.ce (.int .i64)) .nil .nil) .nil)) (.node 12 (.ce (.bool)) (.node 11 (.ce (.int .i64)) (.node 10 (.ce (.one)) .nil .nil) .nil) (.node 15 (.ce (.one)) (.node 13 (.ce (.int .i64)) .nil .nil) .nil))) (.node 24 (.ce (.int .i64)) (.node 19 (.ce (.int .i64)) (.node 18 (.ce (.int .i64)) (.node 17 (.ce (.bool)) .nil .nil) .nil) (.node 23 (.ce (.one)) (.node 21 (.ce (.int .i64)) .nil .nil) .nil)) (.node 28 (.ce (.int .i64)) (.node 27 (.ce (.int .i64)) (.node 26 (.ce (.one)) .nil .nil) .nil) (.node 30 (.ce (.int .i64)) (.node 29 (.ce (.bool)) .nil .nil) .nil))))

noncomputable def D_ref_CheckClauses_b1 (pg : Prg) (x3 : Int) (xc0_0 : Int) (vc0_1 : PV) (gh : List GObj) : Option (IExit × St) := isC (degr vc0_1) (lenS (degr (degr vc0_1)) fun n1 => 
  br 17 (decide (x3 < (n1 : Int))) (isC (degr vc0_1) (
  idX 1 none (degr (degr vc0_1)) x3 fun p2 => 
  ldX [[(.int .i64 xc0_0), vc0_1]] gh false 1 (degr p2) fun v3 => isC v3 (arK (degr v3) (
  callR gh true (callL pg 112 [(.int .i64 xc0_0), (degr v3)] gh) fun r4 gh5 => unI .i64 r4 fun n6 => 
  br 29 (n6 != 0) (some (.ret, ⟨[(2, (.int .i64 n6))], [], gh5⟩)) (some (.normal, ⟨[(1, (.ptr false 0 0)), (3, (.int .i64 (IntKind.i64.wrap (x3 + 1))))], [[(.int .i64 xc0_0), vc0_1]], gh5⟩)))))) (some ((.exit 0), ⟨[(1, (.ptr false 0 0)), (3, (.int .i64 x3)), (17, (.bool (decide (x3 < (n1 : Int)))))], [[(.int .i64 xc0_0), vc0_1]], gh⟩)))

theorem D_ref_CheckClauses_b1_ok {pg : Prg} {gh : List GObj} {x3 : Int} {xc0_0 : Int} {vc0_1 : PV} {e : IExit} {s : St} (h : D_ref_CheckClauses_b1 pg x3 xc0_0 vc0_1 gh = some (e, s)) : runL pg f_ref_CheckClauses_b1 ⟨[(1, (.ptr false 0 0)), (3, (.int .i64 x3))], [[(.int .i64 xc0_0), vc0_1]], gh⟩ = some (e, s) :=
  runX_ok an_ref_CheckClauses (Eq.trans (by kernel_rfl) h)

noncomputable def D_ref_CheckClauses_k1 (pg : Prg)  (gh : List GObj) : Option (IExit × St) := some (.ret, ⟨[(2, (.int .i64 0))], [], gh⟩)

theorem D_ref_CheckClauses_k1_ok {pg : Prg} {gh : List GObj}  {e : IExit} {s : St} (h : D_ref_CheckClauses_k1 pg  gh = some (e, s)) : runL pg f_ref_CheckClauses_k1 ⟨[], [], gh⟩ = some (e, s) :=
  runX_ok an_ref_CheckClauses (Eq.trans (by kernel_rfl) h)

noncomputable def D_ref_CheckClauses_0 (pg : Prg) (x0_0 : Int) (v0_1 : PV) (gh : List GObj) : Option (IExit × St) := onK (degr1 v0_1) (
  callR gh true (callL pg 50 [(.int .i64 x0_0), (.int .i64 0), (.int .i64 200000)] gh) fun r1 gh2 => unB r1 fun b3 => 
  br 8 (!b3) (some (.ret, ⟨[(2, (.int .i64 3))], [], gh2⟩)) (isC (degr (degr1 v0_1)) (lenS (degr (degr (degr1 v0_1))) fun n4 => 
  br 12 (decide (800000 < (n4 : Int))) (some (.ret, ⟨[(2, (.int .i64 2))], [], gh2⟩)) (
  kR (runL pg f_ref_CheckClauses_l1 ⟨[(1, (.ptr false 0 0)), (3, (.int .i64 0))], [[(.int .i64 x0_0), (degr1 v0_1)]], gh2⟩) (fun e s => nx e s (fun e s => some (e, s)) fun s => kR (runL pg f_ref_CheckClauses_k1 s) (fun e s => some (e, s)))))))

theorem D_ref_CheckClauses_0_ok {pg : Prg} {gh : List GObj} {x0_0 : Int} {v0_1 : PV} {e : IExit} {s : St} (h : D_ref_CheckClauses_0 pg x0_0 v0_1 gh = some (e, s)) : runL pg f_ref_CheckClauses_0 ⟨[(0, (.agg [(.int .i64 x0_0), v0_1]))], [], gh⟩ = some (e, s) :=
  runX_ok an_ref_CheckClauses (Eq.trans (by kernel_rfl) h)

end Go.Lw
end

/-! What the code of function ref_DoneClauses comes to, piece by piece. Written by program (dprint.py). -/
section
set_option maxRecDepth 10000
set_option maxHeartbeats 4000000
namespace Go.Lw
open Go

def an_ref_DoneClauses : Tr := (.node 7 (.ce (.int .i64)) (.node 4 (.ce (.int .i64)) (.node 3 (.ce (.int .i64)) (.node 0 (.agg [.int .i64, .any]) .nil .nil) .nil) (.node 6 (.ce (.int .i64)) (.node 5 (.agg [.int .i64, .any]) .nil .nil) .nil)) (.node 10 (.ce (.int .i64)) (.node 9 (.agg [.int .i64, .any]) (.node 8 (.ce (.bool)) .nil .nil) .nil) (.node 11 (.agg [.int .i64, .any]) .nil .nil)))

noncomputable def D_ref_DoneClauses_0 (pg : Prg) (x0_0 : Int) (v0_1 : PV) (gh : List GObj) : Option (IExit × St) := onK (degr1 v0_1) (onK (degr1 (degr1 (degr1 v0_1))) (
  callR gh true (callL pg 93 [(.agg [(.int .i64 x0_0), (degr1 (degr1 (degr1 v0_1)))])] gh) fun r1 gh2 => unI .i64 r1 fun n3 => 
  br 8 (n3 != 0) (some (.ret, ⟨[(2, (.ptr false 1 0)), (3, (.int .i64 n3))], [[(.int .i64 x0_0), (degr1 v0_1)], [(.int .i64 0), (.sl true 1 [])]], gh2⟩)) (onK (degr1 (degr1 v0_1)) (some (.ret, ⟨[(2, (.ptr false 1 0)), (3, (.int .i64 0))], [[(.int .i64 x0_0), (degr1 v0_1)], [(.int .i64 x0_0), (degr1 (degr1 v0_1))]], gh2⟩)))))

theorem D_ref_DoneClauses_0_ok {pg : Prg} {gh : List GObj} {x0_0 : Int} {v0_1 : PV} {e : IExit} {s : St} (h : D_ref_DoneClauses_0 pg x0_0 v0_1 gh = some (e, s)) : runL pg f_ref_DoneClauses_0 ⟨[(0, (.agg [(.int .i64 x0_0), v0_1]))], [], gh⟩ = some (e, s) :=
  runX_ok an_ref_DoneClauses (Eq.trans (by kernel_rfl) h)

end Go.Lw
end

/-! What the code of function ref_ClausesOf comes to, piece by piece. Written by program (dprint.py). -/
section
set_option maxRecDepth 10000
set_option maxHeartbeats 4000000
namespace Go.Lw
open Go

def an_ref_ClausesOf : Tr := (.node 19 (.ce (.int .i64)) (.node 12 (.ce (.int .i64)) (.node 7 (.ce (.int .i64)) (.node 1 (.ce (.one)) (.node 0 (.agg [.int .i64, .any]) .nil .nil) (.node 5 (.ce (.int .i64)) .nil .nil)) (.node 11 (.ce (.one)) (.node 9 (.ce (.int .i64)) .nil .nil) .nil)) (.node 16 (.agg [.int .i64, .any]) (.node 14 (.agg [.int .i64, .any]) (.node 13 (.ce (.int .i64)) .nil .nil) (.node 15 (.ce (.one)) .nil .nil)) (.node 18 (.ce (.one)) (.node 17 (.ce (.int .i64)) .nil .nil) .nil))) (.node 28 (.ce (.int .i64)) (.node 24 (.ce (.one)) (.node 21 (.ce (.int .i64)) (.node 20 (.ce (.bool)) .nil .nil) (.node 22 (.ce (.int .i64)) .nil .nil)) (.node 26 (.ce (.int .i64)) (.node 25 (.ce (.one)) .nil .nil) .nil)) (.node 33 (.tup 2) (.node 30 (.ce (.one)) (.node 29 (.ce (.one)) .nil .nil) (.node 32 (.agg [.int .i64, .any]) .nil .nil)) (.node 35 (.ce (.int .i64)) (.node 34 (.agg [.int .i64, .any]) .nil .nil) .nil))))

noncomputable def D_ref_ClausesOf_b1 (pg : Prg) (v1 : PV) (x7 : Int) (xc0_0 : Int) (vc0_1 : PV) (xc1_0 : Int) (vc1_1 : PV) (xc2_0 : Int) (vc2_1 : PV) (gh : List GObj) : Option (IExit × St) := isC (degr v1) (lenS (degr (degr v1)) fun n1 => stK 3 v1 (
  br 20 (decide (x7 < (n1 : Int))) (isC (degr v1) (
  idX 1 none (degr (degr v1)) x7 fun p2 => 
  ldX [[(.int .i64 xc0_0), vc0_1], [(.int .i64 xc1_0), vc1_1], [(.int .i64 xc2_0), (degr1 vc2_1)]] gh false 1 (degr p2) fun v3 => unI .i64 v3 fun n4 => 
  callR gh true (callL pg 57 [(.int .i64 n4), (.int .i64 0)] gh) fun r5 gh6 => isC r5 (
  apX 1 24 vc2_1 (degr r5) fun l7 => stK 3 v1 (stK 3 v1 (stK 3 v1 (some (.normal, ⟨[(1, v1), (4, (.ptr false 1 0)), (6, (.ptr false 2 0)), (7, (.int .i64 (IntKind.i64.wrap (x7 + 1))))], [[(.int .i64 xc0_0), vc0_1], [(.int .i64 xc1_0), vc1_1], [(.int .i64 xc2_0), (.sl true 1 l7)]], gh6⟩))))))) (some ((.exit 0), ⟨[(1, v1), (4, (.ptr false 1 0)), (6, (.ptr false 2 0)), (7, (.int .i64 x7)), (20, (.bool (decide (x7 < (n1 : Int)))))], [[(.int .i64 xc0_0), vc0_1], [(.int .i64 xc1_0), vc1_1], [(.int .i64 xc2_0), vc2_1]], gh⟩))))

theorem D_ref_ClausesOf_b1_ok {pg : Prg} {gh : List GObj} {v1 : PV} {x7 : Int} {xc0_0 : Int} {vc0_1 : PV} {xc1_0 : Int} {vc1_1 : PV} {xc2_0 : Int} {vc2_1 : PV} {e : IExit} {s : St} (h : D_ref_ClausesOf_b1 pg v1 x7 xc0_0 vc0_1 xc1_0 vc1_1 xc2_0 vc2_1 gh = some (e, s)) : runL pg f_ref_ClausesOf_b1 ⟨[(1, v1), (4, (.ptr false 1 0)), (6, (.ptr false 2 0)), (7, (.int .i64 x7))], [[(.int .i64 xc0_0), vc0_1], [(.int .i64 xc1_0), vc1_1], [(.int .i64 xc2_0), vc2_1]], gh⟩ = some (e, s) :=
  runX_ok an_ref_ClausesOf (Eq.trans (by kernel_rfl) h)

noncomputable def D_ref_ClausesOf_k1 (pg : Prg) (xc0_0 : Int) (vc0_1 : PV) (xc1_0 : Int) (vc1_1 : PV) (xc2_0 : Int) (vc2_1 : PV) (gh : List GObj) : Option (IExit × St) := onK (degr1 (degr1 vc2_1)) (
  callR gh true (callL pg 58 [(.agg [(.int .i64 xc2_0), (degr1 (degr1 vc2_1))])] gh) fun r1 gh2 => unT 2 r1 fun r3 r4 => unA 2 (degr1 r3) fun c5 c6 => unI .i64 c5 fun n7 => unI .i64 (degr1 r4) fun n8 => onK c6 (some (.ret, ⟨[(4, (.ptr false 1 0)), (5, (.int .i64 n8))], [[(.int .i64 xc0_0), vc0_1], [(.int .i64 n7), c6]], gh2⟩)))

theorem D_ref_ClausesOf_k1_ok {pg : Prg} {gh : List GObj} {xc0_0 : Int} {vc0_1 : PV} {xc1_0 : Int} {vc1_1 : PV} {xc2_0 : Int} {vc2_1 : PV} {e : IExit} {s : St} (h : D_ref_ClausesOf_k1 pg xc0_0 vc0_1 xc1_0 vc1_1 xc2_0 vc2_1 gh = some (e, s)) : runL pg f_ref_ClausesOf_k1 ⟨[(4, (.ptr false 1 0)), (6, (.ptr false 2 0))], [[(.int .i64 xc0_0), vc0_1], [(.int .i64 xc1_0), vc1_1], [(.int .i64 xc2_0), vc2_1]], gh⟩ = some (e, s) :=
  runX_ok an_ref_ClausesOf (Eq.trans (by kernel_rfl) h)

noncomputable def D_ref_ClausesOf_0 (pg : Prg) (x0_0 : Int) (v0_1 : PV) (v1 : PV) (gh : List GObj) : Option (IExit × St) := onK (degr1 v0_1) (stK 2 v1 (isC (degr (degr1 v0_1)) (lenS (degr (degr (degr1 v0_1))) fun n1 => onK (degr1 (degr1 (degr1 v0_1))) (
  callR gh true (callL pg 56 [(.agg [(.int .i64 x0_0), (degr1 (degr1 (degr1 v0_1)))]), (.int .i64 0)] gh) fun r2 gh3 => isC r2 (arK r2 (isC r2 (onK r2 (stK 3 v1 (stK 3 v1 (
  kR (runL pg f_ref_ClausesOf_l1 ⟨[(1, v1), (4, (.ptr false 1 0)), (6, (.ptr false 2 0)), (7, (.int .i64 0))], [[(.int .i64 x0_0), (degr1 v0_1)], [(.int .i64 0), (.sl true 1 [])], [(.int .i64 (IntKind.i64.wrap (x0_0 + (n1 : Int)))), r2]], gh3⟩) (fun e s => nx e s (fun e s => some (e, s)) fun s => kR (runL pg f_ref_ClausesOf_k1 s) (fun e s => some (e, s)))))))))))))

theorem D_ref_ClausesOf_0_ok {pg : Prg} {gh : List GObj} {x0_0 : Int} {v0_1 : PV} {v1 : PV} {e : IExit} {s : St} (h : D_ref_ClausesOf_0 pg x0_0 v0_1 v1 gh = some (e, s)) : runL pg f_ref_ClausesOf_0 ⟨[(0, (.agg [(.int .i64 x0_0), v0_1])), (1, v1)], [], gh⟩ = some (e, s) :=
  runX_ok an_ref_ClausesOf (Eq.trans (by kernel_rfl) h)

end Go.Lw
end

/-! What the code of function ref_SameInts comes to, piece by piece. Written by program (dprint.py). -/
section
set_option maxRecDepth 10000
set_option maxHeartbeats 4000000
namespace Go.Lw
open Go

def an_ref_SameInts : Tr := (.node 13 (.ce (.int .i64)) (.node 7 (.ce (.int .i64)) (.node 4 (.ce (.bool)) (.node 1 (.ce (.one)) (.node 0 (.ce (.one)) .nil .nil) .nil) (.node 6 (.ce (.one)) (.node 5 (.ce (.int .i64)) .nil .nil) .nil)) (.node 10 (.ce (.bool)) (.node 9 (.ce (.int .i64)) (.node 8 (.ce (.one)) .nil .nil) .nil) (.node 12 (.ce (.one)) (.node 11 (.ce (.int .i64)) .nil .nil) .nil))) (.node 20 (.ce (.int .i64)) (.node 16 (.ce (.int .i64)) (.node 15 (.ce (.int .i64)) (.node 14 (.ce (.bool)) .nil .nil) .nil) (.node 18 (.ce (.int .i64)) (.node 17 (.ce (.one)) .nil .nil) .nil)) (.node 24 (.ce (.int .i64)) (.node 22 (.ce (.int .i64)) (.node 21 (.ce (.one)) .nil .nil) .nil) (.node 25 (.ce (.bool)) .nil .nil))))

noncomputable def D_ref_SameInts_b1 (pg : Prg) (v0 : PV) (v1 : PV) (x5 : Int) (gh : List GObj) : Option (IExit × St) := isC (degr v0) (lenS (degr (degr v0)) fun n1 => stK 0 v0 (stK 0 v1 (
  br 14 (decide (x5 < (n1 : Int))) (isC (degr v0) (
  idX 1 none (degr (degr v0)) x5 fun p2 => 
  ldX [] gh false 1 (degr p2) fun v3 => unI .i64 v3 fun n4 => isC (degr v1) (
  idX 1 none (degr (degr v1)) x5 fun p5 => 
  ldX [] gh false 1 (degr p5) fun v6 => unI .i64 v6 fun n7 => stK 0 v0 (stK 0 v1 (
  br 25 (n4 != n7) (some (.ret, ⟨[(4, (.bool false))], [], gh⟩)) (stK 0 v0 (stK 0 v1 (stK 0 v0 (stK 0 v1 (some (.normal, ⟨[(0, v0), (1, v1), (5, (.int .i64 (IntKind.i64.wrap (x5 + 1))))], [], gh⟩))))))))))) (some ((.exit 0), ⟨[(0, v0), (1, v1), (5, (.int .i64 x5)), (14, (.bool (decide (x5 < (n1 : Int)))))], [], gh⟩)))))

theorem D_ref_SameInts_b1_ok {pg : Prg} {gh : List GObj} {v0 : PV} {v1 : PV} {x5 : Int} {e : IExit} {s : St} (h : D_ref_SameInts_b1 pg v0 v1 x5 gh = some (e, s)) : runL pg f_ref_SameInts_b1 ⟨[(0, v0), (1, v1), (5, (.int .i64 x5))], [], gh⟩ = some (e, s) :=
  runX_ok an_ref_SameInts (Eq.trans (by kernel_rfl) h)

noncomputable def D_ref_SameInts_k1 (pg : Prg)  (gh : List GObj) : Option (IExit × St) := some (.ret, ⟨[(4, (.bool true))], [], gh⟩)

theorem D_ref_SameInts_k1_ok {pg : Prg} {gh : List GObj}  {e : IExit} {s : St} (h : D_ref_SameInts_k1 pg  gh = some (e, s)) : runL pg f_ref_SameInts_k1 ⟨[], [], gh⟩ = some (e, s) :=
  runX_ok an_ref_SameInts (Eq.trans (by kernel_rfl) h)

noncomputable def D_ref_SameInts_0 (pg : Prg) (v0 : PV) (v1 : PV) (gh : List GObj) : Option (IExit × St) := stK 0 v0 (stK 0 v1 (isC (degr v0) (lenS (degr (degr v0)) fun n1 => isC (degr v1) (lenS (degr (degr v1)) fun n2 => stK 0 v0 (stK 0 v1 (
  br 10 ((n1 : Int) != (n2 : Int)) (some (.ret, ⟨[(4, (.bool false))], [], gh⟩)) (stK 0 v0 (stK 0 v1 (
  kR (runL pg f_ref_SameInts_l1 ⟨[(0, v0), (1, v1), (5, (.int .i64 0))], [], gh⟩) (fun e s => nx e s (fun e s => some (e, s)) fun s => kR (runL pg f_ref_SameInts_k1 s) (fun e s => some (e, s))))))))))))

theorem D_ref_SameInts_0_ok {pg : Prg} {gh : List GObj} {v0 : PV} {v1 : PV} {e : IExit} {s : St} (h : D_ref_SameInts_0 pg v0 v1 gh = some (e, s)) : runL pg f_ref_SameInts_0 ⟨[(0, v0), (1, v1)], [], gh⟩ = some (e, s) :=
  runX_ok an_ref_SameInts (Eq.trans (by kernel_rfl) h)

end Go.Lw
end

/-! What the code of function ref_SameLists comes to, piece by piece. Written by program (dprint.py). -/
section
set_option maxRecDepth 10000
set_option maxHeartbeats 4000000
namespace Go.Lw
open Go

def an_ref_SameLists : Tr := (.node 13 (.ce (.int .i64)) (.node 7 (.ce (.int .i64)) (.node 4 (.ce (.bool)) (.node 1 (.ce (.one)) (.node 0 (.ce (.one)) .nil .nil) .nil) (.node 6 (.ce (.one)) (.node 5 (.ce (.int .i64)) .nil .nil) .nil)) (.node 10 (.ce (.bool)) (.node 9 (.ce (.int .i64)) (.node 8 (.ce (.one)) .nil .nil) .nil) (.node 12 (.ce (.one)) (.node 11 (.ce (.int .i64)) .nil .nil) .nil))) (.node 20 (.ce (.one)) (.node 16 (.ce (.int .i64)) (.node 15 (.ce (.int .i64)) (.node 14 (.ce (.bool)) .nil .nil) .nil) (.node 18 (.ce (.int .i64)) (.node 17 (.ce (.one)) .nil .nil) .nil)) (.node 24 (.ce (.one)) (.node 22 (.ce (.int .i64)) (.node 21 (.ce (.one)) .nil .nil) .nil) (.node 26 (.ce (.bool)) (.node 25 (.ce (.bool)) .nil .nil) .nil))))

noncomputable def D_ref_SameLists_b1 (pg : Prg) (v0 : PV) (v1 : PV) (x5 : Int) (gh : List GObj) : Option (IExit × St) := isC (degr v0) (lenS (degr (degr v0)) fun n1 => stK 0 v0 (stK 0 v1 (
  br 14 (decide (x5 < (n1 : Int))) (isC (degr v0) (
  idX 1 none (degr (degr v0)) x5 fun p2 => 
  ldX [] gh false 1 (degr p2) fun v3 => isC v3 (isC (degr v1) (
  idX 1 none (degr (degr v1)) x5 fun p4 => 
  ldX [] gh false 1 (degr p4) fun v5 => isC v5 (arK (degr v3) (arK (degr v5) (
  callR gh true (callL pg 46 [(degr v3), (degr v5)] gh) fun r6 gh7 => unB r6 fun b8 => stK 0 v0 (stK 0 v1 (
  br 26 (!b8) (some (.ret, ⟨[(4, (.bool false))], [], gh7⟩)) (stK 0 v0 (stK 0 v1 (stK 0 v0 (stK 0 v1 (some (.normal, ⟨[(0, v0), (1, v1), (5, (.int .i64 (IntKind.i64.wrap (x5 + 1))))], [], gh7⟩))))))))))))))) (some ((.exit 0), ⟨[(0, v0), (1, v1), (5, (.int .i64 x5)), (14, (.bool (decide (x5 < (n1 : Int)))))], [], gh⟩)))))

theorem D_ref_SameLists_b1_ok {pg : Prg} {gh : List GObj} {v0 : PV} {v1 : PV} {x5 : Int} {e : IExit} {s : St} (h : D_ref_SameLists_b1 pg v0 v1 x5 gh = some (e, s)) : runL pg f_ref_SameLists_b1 ⟨[(0, v0), (1, v1), (5, (.int .i64 x5))], [], gh⟩ = some (e, s) :=
  runX_ok an_ref_SameLists (Eq.trans (by kernel_rfl) h)

noncomputable def D_ref_SameLists_k1 (pg : Prg)  (gh : List GObj) : Option (IExit × St) := some (.ret, ⟨[(4, (.bool true))], [], gh⟩)

theorem D_ref_SameLists_k1_ok {pg : Prg} {gh : List GObj}  {e : IExit} {s : St} (h : D_ref_SameLists_k1 pg  gh = some (e, s)) : runL pg f_ref_SameLists_k1 ⟨[], [], gh⟩ = some (e, s) :=
  runX_ok an_ref_SameLists (Eq.trans (by kernel_rfl) h)

noncomputable def D_ref_SameLists_0 (pg : Prg) (v0 : PV) (v1 : PV) (gh : List GObj) : Option (IExit × St) := stK 0 v0 (stK 0 v1 (isC (degr v0) (lenS (degr (degr v0)) fun n1 => isC (degr v1) (lenS (degr (degr v1)) fun n2 => stK 0 v0 (stK 0 v1 (
  br 10 ((n1 : Int) != (n2 : Int)) (some (.ret, ⟨[(4, (.bool false))], [], gh⟩)) (stK 0 v0 (stK 0 v1 (
  kR (runL pg f_ref_SameLists_l1 ⟨[(0, v0), (1, v1), (5, (.int .i64 0))], [], gh⟩) (fun e s => nx e s (fun e s => some (e, s)) fun s => kR (runL pg f_ref_SameLists_k1 s) (fun e s => some (e, s))))))))))))

theorem D_ref_SameLists_0_ok {pg : Prg} {gh : List GObj} {v0 : PV} {v1 : PV} {e : IExit} {s : St} (h : D_ref_SameLists_0 pg v0 v1 gh = some (e, s)) : runL pg f_ref_SameLists_0 ⟨[(0, v0), (1, v1)], [], gh⟩ = some (e, s) :=
  runX_ok an_ref_SameLists (Eq.trans (by kernel_rfl) h)

end Go.Lw
end

/-! What the code of function ref_SameClauses comes to, piece by piece. Written by program (dprint.py). -/
section
set_option maxRecDepth 10000
set_option maxHeartbeats 4000000
namespace Go.Lw
open Go

def an_ref_SameClauses : Tr := (.node 9 (.ce (.bool)) (.node 4 (.ce (.bool)) (.node 1 (.agg [.int .i64, .any]) (.node 0 (.agg [.int .i64, .any]) .nil .nil) .nil) (.node 8 (.ce (.int .i64)) (.node 6 (.ce (.int .i64)) .nil .nil) .nil)) (.node 14 (.ce (.one)) (.node 12 (.ce (.one)) (.node 10 (.ce (.bool)) .nil .nil) .nil) (.node 16 (.ce (.bool)) (.node 15 (.ce (.bool)) .nil .nil) .nil)))

noncomputable def D_ref_SameClauses_0 (pg : Prg) (x0_0 : Int) (v0_1 : PV) (x1_0 : Int) (v1_1 : PV) (gh : List GObj) : Option (IExit × St) := onK (degr1 v0_1) (onK (degr1 v1_1) (
  br 10 (x0_0 == x1_0) (isC (degr (degr1 v0_1)) (isC (degr (degr1 v1_1)) (arK (degr (degr (degr1 v0_1))) (arK (degr (degr (degr1 v1_1))) (
  callR gh true (callL pg 95 [(degr (degr (degr1 v0_1))), (degr (degr (degr1 v1_1)))] gh) fun r1 gh2 => unB r1 fun b3 => some (.ret, ⟨[(4, (.bool b3))], [], gh2⟩)))))) (some (.ret, ⟨[(4, (.bool false))], [], gh⟩))))

theorem D_ref_SameClauses_0_ok {pg : Prg} {gh : List GObj} {x0_0 : Int} {v0_1 : PV} {x1_0 : Int} {v1_1 : PV} {e : IExit} {s : St} (h : D_ref_SameClauses_0 pg x0_0 v0_1 x1_0 v1_1 gh = some (e, s)) : runL pg f_ref_SameClauses_0 ⟨[(0, (.agg [(.int .i64 x0_0), v0_1])), (1, (.agg [(.int .i64 x1_0), v1_1]))], [], gh⟩ = some (e, s) :=
  runX_ok an_ref_SameClauses (Eq.trans (by kernel_rfl) h)

end Go.Lw
end

/-! What the code of function law_clausesAre comes to, piece by piece. Written by program (dprint.py). -/
section
set_option maxRecDepth 10000
set_option maxHeartbeats 4000000
namespace Go.Lw
open Go

def an_law_clausesAre : Tr := (.node 12 (.ce (.int .i64)) (.node 8 (.ce (.bool)) (.node 2 (.ce (.int .i64)) (.node 1 (.ce (.int .i64)) (.node 0 (.agg [.int .i64, .any]) .nil .nil) .nil) (.node 3 (.agg [.int .i64, .any]) .nil .nil)) (.node 10 (.ce (.bool)) (.node 9 (.ce (.int .i64)) .nil .nil) (.node 11 (.agg [.int .i64, .any]) .nil .nil))) (.node 16 (.agg [.int .i64, .any]) (.node 14 (.ce (.bool)) (.node 13 (.ce (.int .i64)) .nil .nil) (.node 15 (.ce (.bool)) .nil .nil)) (.node 18 (.ce (.bool)) (.node 17 (.agg [.int .i64, .any]) .nil .nil) (.node 19 (.ce (.bool)) .nil .nil))))

noncomputable def D_law_clausesAre_k1 (pg : Prg) (x1 : Int) (x2 : Int) (xc0_0 : Int) (vc0_1 : PV) (xc1_0 : Int) (vc1_1 : PV) (gh : List GObj) : Option (IExit × St) := 
  br 15 (x1 == x2) (onK (degr1 (degr1 vc0_1)) (onK (degr1 (degr1 vc1_1)) (
  callR gh true (callL pg 60 [(.agg [(.int .i64 xc0_0), (degr1 (degr1 vc0_1))]), (.agg [(.int .i64 xc1_0), (degr1 (degr1 vc1_1))])] gh) fun r1 gh2 => unB r1 fun b3 => some (.ret, ⟨[(8, (.bool b3))], [], gh2⟩)))) (some (.ret, ⟨[(8, (.bool false))], [], gh⟩))

theorem D_law_clausesAre_k1_ok {pg : Prg} {gh : List GObj} {x1 : Int} {x2 : Int} {xc0_0 : Int} {vc0_1 : PV} {xc1_0 : Int} {vc1_1 : PV} {e : IExit} {s : St} (h : D_law_clausesAre_k1 pg x1 x2 xc0_0 vc0_1 xc1_0 vc1_1 gh = some (e, s)) : runL pg f_law_clausesAre_k1 ⟨[(1, (.int .i64 x1)), (2, (.int .i64 x2)), (4, (.ptr false 0 0)), (7, (.ptr false 1 0))], [[(.int .i64 xc0_0), vc0_1], [(.int .i64 xc1_0), vc1_1]], gh⟩ = some (e, s) :=
  runX_ok an_law_clausesAre (Eq.trans (by kernel_rfl) h)

noncomputable def D_law_clausesAre_0 (pg : Prg) (x0_0 : Int) (v0_1 : PV) (x1 : Int) (x2 : Int) (x3_0 : Int) (v3_1 : PV) (gh : List GObj) : Option (IExit × St) := onK (degr1 v0_1) (onK (degr1 v3_1) (
  br 10 (x2 != 0) (
  kR (runL pg f_law_clausesAre_k1 ⟨[(1, (.int .i64 x1)), (2, (.int .i64 x2)), (4, (.ptr false 0 0)), (7, (.ptr false 1 0))], [[(.int .i64 x0_0), (degr1 v0_1)], [(.int .i64 0), (.sl true 1 [])]], gh⟩) (fun e s => some (e, s))) (
  kR (runL pg f_law_clausesAre_k1 ⟨[(1, (.int .i64 x1)), (2, (.int .i64 x2)), (4, (.ptr false 0 0)), (7, (.ptr false 1 0))], [[(.int .i64 x0_0), (degr1 v0_1)], [(.int .i64 x3_0), (degr1 v3_1)]], gh⟩) (fun e s => some (e, s)))))

theorem D_law_clausesAre_0_ok {pg : Prg} {gh : List GObj} {x0_0 : Int} {v0_1 : PV} {x1 : Int} {x2 : Int} {x3_0 : Int} {v3_1 : PV} {e : IExit} {s : St} (h : D_law_clausesAre_0 pg x0_0 v0_1 x1 x2 x3_0 v3_1 gh = some (e, s)) : runL pg f_law_clausesAre_0 ⟨[(0, (.agg [(.int .i64 x0_0), v0_1])), (1, (.int .i64 x1)), (2, (.int .i64 x2)), (3, (.agg [(.int .i64 x3_0), v3_1]))], [], gh⟩ = some (e, s) :=
  runX_ok an_law_clausesAre (Eq.trans (by kernel_rfl) h)

end Go.Lw
end

/-! Clauses: what the document makes and checks. -/
section
namespace Go.Lw
open Go

abbrev LLI (cls : List (List Int)) : List PV := cls.map fun l => LI l

theorem Num_eq (x more : Int) (gh : List GObj) : callL pg 92 [I x, I more] gh = some (I (numE x more), gh) := by
  by_cases h : Int.tmod x 2 = 1
  · refine callL_fn (fn := f_ref_Num) (s := ?s1) rfl rfl (D_ref_Num_0_ok ?h1) ?r1
    case h1 => simp [D_ref_Num_0, h]; rfl
    case r1 => simp [finish, results, f_ref_Num, resOfs, resOf, resOk, numE, h]
  · refine callL_fn (fn := f_ref_Num) (s := ?s2) rfl rfl (D_ref_Num_0_ok ?h2) ?r2
    case h2 => simp [D_ref_Num_0, h]; rfl
    case r2 => simp [finish, results, f_ref_Num, resOfs, resOf, resOk, numE, h]

section
variable {ins : Int} {ands : List (Int × Int)} {gh : List GObj}

def acSt (gh : List GObj) (ins : Int) (ands : List (Int × Int)) (more : Int) (cls : List (List Int)) (i : Nat) : St :=
  ⟨[(1, I more), (2, .ptr false 0 0), (5, .sl true 1 (LLI cls)), (6, I (i : Int))], [[I ins, .sl false 2 (ands.map andV)]], gh⟩

theorem AndCl_b1 {more : Int} {cls : List (List Int)} {i : Nat} (hlt : i < ands.length) (hl : ands.length ≤ 1000000) (hs : cls.length ≤ 4000000) :
    D_ref_AndClauses_b1 pg more (.sl true 1 (LLI cls)) i ins (.sl false 2 (ands.map andV)) gh = some (.normal, acSt gh ins ands more (cls ++ andC ins more i ands[i]) (i + 1)) := by
  have e2 : IntKind.i64.wrap ((i : Int) + 1) = ((i + 1 : Nat) : Int) := by rw [wrap_id (by omega) (by omega)]; omega
  have hx : (ands.map andV)[i]? = some (.agg [I ands[i].1, I ands[i].2]) := by simp [List.getElem?_eq_getElem hlt, andV]
  generalize hy : ands[i] = x at *
  obtain ⟨a, b⟩ := x
  have hmx : (cls.length + 3) * 24 ≤ maxBytes := by
    have : maxBytes = 140737488355328 := rfl
    omega
  have hn1 := Num_eq a more gh
  have hn2 := Num_eq b more gh
  have e3 : LLI (cls ++ andC ins more i (a, b)) = LLI cls ++ LLI (andC ins more i (a, b)) := by simp [LLI]
  have hlen : (LLI cls).length = cls.length := by simp [LLI]
  simp only at hx
  unfold acSt
  rw [e3]
  simp only [andC, LLI, LI, List.map_cons, List.map_nil, negI]
  generalize hN : nOf ins more i = N at *
  unfold nOf at hN
  generalize hC : (cls.map fun l => PV.sl false 1 (l.map I)) = C at *
  have hCl : C.length = cls.length := by rw [← hC]; simp
  simp [D_ref_AndClauses_b1, hlt, hx, hy, andV_def, hn1, hn2, hN, hCl, hmx, e2, -List.getElem?_map]

theorem AndCl_loop {more : Int} (hl : ands.length ≤ 1000000) : ∀ k i (cls : List (List Int)), i + k = ands.length → cls.length + 3 * k ≤ 4000000 →
    runL pg f_ref_AndClauses_l1 (acSt gh ins ands more cls i) = some (.normal, ⟨[(5, .sl true 1 (LLI (cls ++ andsC ins more i (ands.drop i))))], [], gh⟩)
  | 0, i, cls, h, _ => by
    rw [List.drop_eq_nil_of_le (by omega)]
    have hlt : ¬ i < ands.length := by omega
    refine (lp_exit (s1 := ?s1) (D_ref_AndClauses_b1_ok ?h1)).trans ?r1
    case h1 => simp [D_ref_AndClauses_b1, hlt]; rfl
    case r1 => simp [keep, andsC, stays]
  | k + 1, i, cls, h, hs => by
    have hlt : i < ands.length := by omega
    refine lp_next (D_ref_AndClauses_b1_ok (AndCl_b1 hlt hl (by omega))) ?_
    rw [List.drop_eq_getElem_cons hlt, andsC, ← List.append_assoc]
    exact AndCl_loop hl k (i + 1) _ (by omega) (by simp [andC]; omega)

theorem AndCl_eq {more : Int} (hl : ands.length ≤ 1000000) : callL pg 56 [graphV ins ands, I more] gh = some (.sl true 1 (LLI (andsC ins more 0 ands)), gh) := by
  have h := AndCl_loop (gh := gh) (ins := ins) (more := more) hl ands.length 0 [] (by omega) (by simp; omega)
  rw [List.drop_zero, List.nil_append] at h
  unfold acSt at h
  simp only [Int.natCast_zero] at h
  have hn := noGs_lists (andsC ins more 0 ands)
  have hk := D_ref_AndClauses_k1_ok (pg := pg) (gh := gh) (v5 := .sl true 1 (LLI (andsC ins more 0 ands))) (e := .ret) (s := ⟨[(4, .sl true 1 (LLI (andsC ins more 0 ands)))], [], gh⟩) (by simp [D_ref_AndClauses_k1])
  unfold LLI at *
  generalize (andsC ins more 0 ands).map (fun l => LI l) = L at *
  refine callL_fn (fn := f_ref_AndClauses) (s := ⟨[(4, .sl true 1 L)], [], gh⟩) rfl rfl (D_ref_AndClauses_0_ok ?h1) ?r1
  case h1 =>
    simp only [List.map_nil] at h
    simp [D_ref_AndClauses_0, graphV, h, hk]
  case r1 => simp [finish, results, f_ref_AndClauses, resOk, hn]

theorem MustCl_eq {r more : Int} : callL pg 57 [I r, I more] gh = some (.sl false 1 (LLI (mustC r more)), gh) := by
  by_cases h1 : r = 1
  · refine callL_fn (fn := f_ref_MustClauses) (s := ?s1) rfl rfl (D_ref_MustClauses_0_ok ?h1) ?r1
    case h1 => simp [D_ref_MustClauses_0, h1]; rfl
    case r1 => simp [finish, results, f_ref_MustClauses, resOfs, resOf, resOk, mustC, h1]
  by_cases h0 : r = 0
  · refine callL_fn (fn := f_ref_MustClauses) (s := ?s2) rfl rfl (D_ref_MustClauses_0_ok ?h2) ?r2
    case h2 => simp [D_ref_MustClauses_0, h0]; rfl
    case r2 => simp [finish, results, f_ref_MustClauses, resOfs, resOf, resOk, mustC, h0]
  · have hn := Num_eq r more gh
    refine callL_fn (fn := f_ref_MustClauses) (s := ?s3) rfl rfl (D_ref_MustClauses_0_ok ?h3) ?r3
    case h3 => simp [D_ref_MustClauses_0, h1, h0, hn]; rfl
    case r3 => simp [finish, results, f_ref_MustClauses, resOfs, resOf, resOk, mustC, h1, h0]

theorem CheckCl_loop {vars : Int} {l : List Int} (hl : l.length ≤ 200) : ∀ k i, i + k = l.length →
    runL pg f_ref_CheckClause_l1 ⟨[(0, I vars), (1, LI l), (5, I (i : Int))], [], gh⟩ =
      if (l.drop i).any (badN vars) = true then some (.ret, ⟨[(4, I 5)], [], gh⟩) else some (.normal, ⟨[], [], gh⟩)
  | 0, i, h => by
    rw [List.drop_eq_nil_of_le (by omega), List.any_nil, if_neg (by simp)]
    have hlt : ¬ i < l.length := by omega
    refine (lp_exit (s1 := ?s1) (D_ref_CheckClause_b1_ok ?h1)).trans ?r1
    case h1 => simp [D_ref_CheckClause_b1, hlt]; rfl
    case r1 => simp [keep]
  | k + 1, i, h => by
    have hlt : i < l.length := by omega
    have e2 : IntKind.i64.wrap ((i : Int) + 1) = ((i + 1 : Nat) : Int) := by rw [wrap_id (by omega) (by omega)]; omega
    have hx : (l.map I)[i]? = some (I l[i]) := by simp [List.getElem?_eq_getElem hlt]
    rw [List.drop_eq_getElem_cons hlt, List.any_cons]
    by_cases h0 : l[i] = 0
    · rw [if_pos (by simp [badN, h0])]
      refine lp_ret (D_ref_CheckClause_b1_ok ?_)
      simp [D_ref_CheckClause_b1, hlt, h0, -List.getElem?_map]
    by_cases h1 : vars < l[i]
    · rw [if_pos (by simp [badN, h1])]
      refine lp_ret (D_ref_CheckClause_b1_ok ?_)
      simp [D_ref_CheckClause_b1, hlt, h0, h1, -List.getElem?_map]
    by_cases h2 : l[i] < IntKind.i64.wrap (-vars)
    · rw [if_pos (by simp [badN, h2])]
      refine lp_ret (D_ref_CheckClause_b1_ok ?_)
      simp [D_ref_CheckClause_b1, hlt, h0, h1, h2, -List.getElem?_map]
    · have e : badN vars l[i] = false := by simp [badN, h0, h1, h2]
      rw [e, Bool.false_or]
      refine lp_next (s1 := ⟨[(0, I vars), (1, LI l), (5, I ((i + 1 : Nat) : Int))], [], gh⟩) (D_ref_CheckClause_b1_ok ?_) (CheckCl_loop hl k (i + 1) (by omega))
      simp [D_ref_CheckClause_b1, hlt, h0, h1, h2, e2, -List.getElem?_map]

theorem CheckCl_eq {vars : Int} {l : List Int} : callL pg 112 [I vars, LI l] gh = some (I (oneE vars l), gh) := by
  by_cases h : 200 < l.length
  · have hI : (200 : Int) < (l.length : Int) := by omega
    refine callL_fn (fn := f_ref_CheckClause) (s := ?s1) rfl rfl (D_ref_CheckClause_0_ok ?h1) ?r1
    case h1 => simp [D_ref_CheckClause_0, hI]; rfl
    case r1 => simp [finish, results, f_ref_CheckClause, resOfs, resOf, resOk, oneE, h]
  · have hI : ¬ (200 : Int) < (l.length : Int) := by omega
    have hl := CheckCl_loop (gh := gh) (vars := vars) (l := l) (by omega) l.length 0 (by omega)
    rw [List.drop_zero] at hl
    simp only [Int.natCast_zero] at hl
    cases hb : l.any (badN vars) with
    | true =>
      rw [if_pos hb] at hl
      refine callL_fn (fn := f_ref_CheckClause) (s := ?s2) rfl rfl (D_ref_CheckClause_0_ok ?h2) ?r2
      case h2 => simp [D_ref_CheckClause_0, hI, hl]; rfl
      case r2 => simp [finish, results, f_ref_CheckClause, resOfs, resOf, resOk, oneE, h, hb]
    | false =>
      rw [if_neg (by rw [hb]; simp)] at hl
      have hk := D_ref_CheckClause_k1_ok (pg := pg) (gh := gh) (e := .ret) (s := ⟨[(4, I 0)], [], gh⟩) rfl
      refine callL_fn (fn := f_ref_CheckClause) (s := ?s3) rfl rfl (D_ref_CheckClause_0_ok ?h3) ?r3
      case h3 => simp [D_ref_CheckClause_0, hI, hl, hk]; rfl
      case r3 => simp [finish, results, f_ref_CheckClause, resOfs, resOf, resOk, oneE, h, hb]

theorem CheckCls_loop {vars : Int} {cls : List (List Int)} (hl : cls.length ≤ 800000) : ∀ k i, i + k = cls.length →
    runL pg f_ref_CheckClauses_l1 ⟨[(1, .ptr false 0 0), (3, I (i : Int))], [[I vars, .sl false 1 (LLI cls)]], gh⟩ =
      if firstE vars (cls.drop i) = 0 then some (.normal, ⟨[], [], gh⟩) else some (.ret, ⟨[(2, I (firstE vars (cls.drop i)))], [], gh⟩)
  | 0, i, h => by
    rw [List.drop_eq_nil_of_le (by omega), firstE, if_pos rfl]
    have hlt : ¬ i < cls.length := by omega
    refine (lp_exit (s1 := ?s1) (D_ref_CheckClauses_b1_ok ?h1)).trans ?r1
    case h1 => simp [D_ref_CheckClauses_b1, hlt]; rfl
    case r1 => simp [keep]
  | k + 1, i, h => by
    have hlt : i < cls.length := by omega
    have e2 : IntKind.i64.wrap ((i : Int) + 1) = ((i + 1 : Nat) : Int) := by rw [wrap_id (by omega) (by omega)]; omega
    have hx : (cls.map fun l => LI l)[i]? = some (LI cls[i]) := by simp [List.getElem?_eq_getElem hlt]
    have h1 := CheckCl_eq (gh := gh) (vars := vars) (l := cls[i])
    rw [List.drop_eq_getElem_cons hlt, firstE]
    by_cases he : oneE vars cls[i] = 0
    · rw [if_pos he]
      rw [he] at h1
      refine lp_next (s1 := ⟨[(1, .ptr false 0 0), (3, I ((i + 1 : Nat) : Int))], [[I vars, .sl false 1 (LLI cls)]], gh⟩) (D_ref_CheckClauses_b1_ok ?h2) (CheckCls_loop hl k (i + 1) (by omega))
      case h2 => simp [D_ref_CheckClauses_b1, hlt, hx, h1, e2, -List.getElem?_map]
    · rw [if_neg he, if_neg he]
      refine lp_ret (D_ref_CheckClauses_b1_ok ?h3)
      case h3 => simp [D_ref_CheckClauses_b1, hlt, hx, h1, he, -List.getElem?_map]

theorem CheckCls_eq {vars : Int} {cls : List (List Int)} : callL pg 93 [clV vars cls] gh = some (I (clsE vars cls), gh) := by
  have hb := between_eq (gh := gh) vars 0 200000
  by_cases h12 : vars < 0 ∨ 200000 < vars
  · have e : (decide (0 ≤ vars ∧ vars ≤ 200000)) = false := by
      rw [Bool.eq_false_iff]; simp; omega
    rw [e] at hb
    refine callL_fn (fn := f_ref_CheckClauses) (s := ?s1) rfl rfl (D_ref_CheckClauses_0_ok ?h1) ?r1
    case h1 => simp [D_ref_CheckClauses_0, hb]; rfl
    case r1 => simp [finish, results, f_ref_CheckClauses, resOfs, resOf, resOk, clsE, h12]
  have e : (decide (0 ≤ vars ∧ vars ≤ 200000)) = true := by simp; omega
  rw [e] at hb
  by_cases h3 : 800000 < cls.length
  · have hI : (800000 : Int) < (cls.length : Int) := by omega
    refine callL_fn (fn := f_ref_CheckClauses) (s := ?s3) rfl rfl (D_ref_CheckClauses_0_ok ?h3) ?r3
    case h3 => simp [D_ref_CheckClauses_0, hb, hI]; rfl
    case r3 => simp [finish, results, f_ref_CheckClauses, resOfs, resOf, resOk, clsE, h12, h3]
  have hI : ¬ (800000 : Int) < (cls.length : Int) := by omega
  have hl := CheckCls_loop (gh := gh) (vars := vars) (cls := cls) (by omega) cls.length 0 (by omega)
  rw [List.drop_zero] at hl
  simp only [Int.natCast_zero, LLI] at hl
  generalize hL : (cls.map fun l => LI l) = L at *
  have hLl : L.length = cls.length := by rw [← hL]; simp
  by_cases he : firstE vars cls = 0
  · rw [if_pos he] at hl
    have hk := D_ref_CheckClauses_k1_ok (pg := pg) (gh := gh) (e := .ret) (s := ⟨[(2, I 0)], [], gh⟩) rfl
    refine callL_fn (fn := f_ref_CheckClauses) (s := ?s4) rfl rfl (D_ref_CheckClauses_0_ok ?h4) ?r4
    case h4 => simp [D_ref_CheckClauses_0, hb, hLl, hI, hl, hk, hL]; rfl
    case r4 => simp [finish, results, f_ref_CheckClauses, resOfs, resOf, resOk, clsE, h12, h3, he]
  · rw [if_neg he] at hl
    refine callL_fn (fn := f_ref_CheckClauses) (s := ?s5) rfl rfl (D_ref_CheckClauses_0_ok ?h5) ?r5
    case h5 => simp [D_ref_CheckClauses_0, hb, hLl, hI, hl, hL]; rfl
    case r5 => simp [finish, results, f_ref_CheckClauses, resOfs, resOf, resOk, clsE, h12, h3]

theorem DoneCl_eq {vars : Int} {cls : List (List Int)} : callL pg 58 [clV vars cls] gh = some (doneE vars cls, gh) := by
  have h := CheckCls_eq (gh := gh) (vars := vars) (cls := cls)
  have hn := noGs_lists cls
  unfold clV at h
  unfold doneE clV
  generalize (cls.map fun l => LI l) = L at *
  by_cases he : clsE vars cls = 0
  · rw [he] at h
    refine callL_fn (fn := f_ref_DoneClauses) (s := ?s1) rfl rfl (D_ref_DoneClauses_0_ok ?h1) ?r1
    case h1 => simp [D_ref_DoneClauses_0, h]; rfl
    case r1 => simp [finish, results, f_ref_DoneClauses, resOfs, resOf, St.cellsAt, resOk, he, hn]
  · refine callL_fn (fn := f_ref_DoneClauses) (s := ?s2) rfl rfl (D_ref_DoneClauses_0_ok ?h2) ?r2
    case h2 => simp [D_ref_DoneClauses_0, h, he]; rfl
    case r2 => simp [finish, results, f_ref_DoneClauses, resOfs, resOf, St.cellsAt, resOk, he]

def coSt (gh : List GObj) (ins : Int) (ands : List (Int × Int)) (roots : List Int) (vars : Int) (cls : List (List Int)) (i : Nat) : St :=
  ⟨[(1, LI roots), (4, .ptr false 1 0), (6, .ptr false 2 0), (7, I (i : Int))], [[I ins, .sl false 2 (ands.map andV)], [I 0, .sl true 1 []], [I vars, .sl true 1 (LLI cls)]], gh⟩

theorem ClOf_loop {vars : Int} {roots : List Int} (hr : roots.length ≤ 1100000) : ∀ k i (cls : List (List Int)), i + k = roots.length → cls.length + k ≤ 5000000 →
    runL pg f_ref_ClausesOf_l1 (coSt gh ins ands roots vars cls i) = some (.normal, ⟨[(4, .ptr false 1 0), (6, .ptr false 2 0)], [[I ins, .sl false 2 (ands.map andV)], [I 0, .sl true 1 []], [I vars, .sl true 1 (LLI (cls ++ rootsC 0 (roots.drop i)))]], gh⟩)
  | 0, i, cls, h, _ => by
    rw [List.drop_eq_nil_of_le (by omega)]
    have hlt : ¬ i < roots.length := by omega
    refine (lp_exit (s1 := ?s1) (D_ref_ClausesOf_b1_ok ?h1)).trans ?r1
    case h1 => simp [D_ref_ClausesOf_b1, hlt]; rfl
    case r1 => simp [keep, rootsC, stays]
  | k + 1, i, cls, h, hs => by
    have hlt : i < roots.length := by omega
    have e2 : IntKind.i64.wrap ((i : Int) + 1) = ((i + 1 : Nat) : Int) := by rw [wrap_id (by omega) (by omega)]; omega
    have hx : (roots.map I)[i]? = some (I roots[i]) := by simp [List.getElem?_eq_getElem hlt]
    have hm := MustCl_eq (gh := gh) (r := roots[i]) (more := 0)
    have hml := mustC_len roots[i] 0
    rw [List.drop_eq_getElem_cons hlt, rootsC, ← List.append_assoc]
    refine lp_next (D_ref_ClausesOf_b1_ok (s := coSt gh ins ands roots vars (cls ++ mustC roots[i] 0) (i + 1)) ?h2) (ClOf_loop hr k (i + 1) _ (by omega) (by simp; omega))
    case h2 =>
      have hmx : (cls.length + (mustC roots[i] 0).length) * 24 ≤ maxBytes := by
        have : maxBytes = 140737488355328 := rfl
        omega
      unfold coSt
      have e3 : LLI (cls ++ mustC roots[i] 0) = LLI cls ++ LLI (mustC roots[i] 0) := by simp [LLI]
      rw [e3]
      have l1 : (LLI cls).length = cls.length := by simp [LLI]
      have l2 : (LLI (mustC roots[i] 0)).length = (mustC roots[i] 0).length := by simp [LLI]
      generalize LLI (mustC roots[i] 0) = M at *
      generalize LLI cls = C at *
      rw [← l1, ← l2] at hmx
      simp [D_ref_ClausesOf_b1, hlt, hx, hm, hmx, e2, -List.getElem?_map]

theorem ClOf_eq {roots : List Int} (hl : ands.length ≤ 1000000) (hs : roots.length ≤ 1100000) : callL pg 17 [graphV ins ands, LI roots] gh = some (doneE (IntKind.i64.wrap (ins + ands.length)) (andsC ins 0 0 ands ++ rootsC 0 roots), gh) := by
  have hA := AndCl_eq (gh := gh) (ins := ins) (ands := ands) (more := 0) hl
  unfold graphV at hA
  generalize hv : IntKind.i64.wrap (ins + (ands.length : Int)) = vars
  have hal := andsC_len ins 0 0 ands
  have hL := ClOf_loop (gh := gh) (ins := ins) (ands := ands) (vars := vars) hs roots.length 0 (andsC ins 0 0 ands) (by omega) (by omega)
  rw [List.drop_zero] at hL
  unfold coSt at hL
  simp only [Int.natCast_zero] at hL
  have hD := DoneCl_eq (gh := gh) (vars := vars) (cls := andsC ins 0 0 ands ++ rootsC 0 roots)
  generalize andsC ins 0 0 ands ++ rootsC 0 roots = C at *
  generalize andsC ins 0 0 ands = A at *
  obtain ⟨n, c, e, ho⟩ := doneE_out (vars := vars) (cls := C)
  rw [ho] at hD ⊢
  have hn := noGs_lists c
  have hk := D_ref_ClausesOf_k1_ok (pg := pg) (gh := gh) (xc0_0 := ins) (vc0_1 := .sl false 2 (ands.map andV)) (xc1_0 := 0) (vc1_1 := .sl true 1 []) (xc2_0 := vars) (vc2_1 := .sl true 1 (LLI C)) (e := .ret)
    (s := ⟨[(4, .ptr false 1 0), (5, I e)], [[I ins, .sl false 2 (ands.map andV)], [I n, .sl false 1 (c.map fun l => LI l)]], gh⟩) (by
      unfold clV at hD
      simp [D_ref_ClausesOf_k1, hD])
  refine callL_fn (fn := f_ref_ClausesOf) (s := ⟨[(4, .ptr false 1 0), (5, I e)], [[I ins, .sl false 2 (ands.map andV)], [I n, .sl false 1 (c.map fun l => LI l)]], gh⟩) rfl rfl (D_ref_ClausesOf_0_ok ?h2) ?r2
  case h2 =>
    generalize LLI A = A' at *
    generalize LLI C = C' at *
    simp [D_ref_ClausesOf_0, hA, hv, hL, hk]
  case r2 => simp [finish, results, f_ref_ClausesOf, resOfs, resOf, St.cellsAt, resOk, clV, hn]

/-! the same -/
theorem SameInts_loop {v : List Int} (hs : Sz v.length) : ∀ k i, i + k = v.length →
    runL pg f_ref_SameInts_l1 ⟨[(0, LI v), (1, LI v), (5, I (i : Int))], [], gh⟩ = some (.normal, ⟨[], [], gh⟩)
  | 0, i, h => by
    have hlt : ¬ i < v.length := by omega
    refine (lp_exit (s1 := ?s1) (D_ref_SameInts_b1_ok ?h1)).trans ?r1
    case h1 => simp [D_ref_SameInts_b1, hlt]; rfl
    case r1 => simp [keep]
  | k + 1, i, h => by
    have hlt : i < v.length := by omega
    have e3 : IntKind.i64.wrap ((i : Int) + 1) = ((i + 1 : Nat) : Int) := wrap_nat (by simp only [Sz] at hs ⊢; omega)
    refine lp_next (s1 := ⟨[(0, LI v), (1, LI v), (5, I ((i + 1 : Nat) : Int))], [], gh⟩) (D_ref_SameInts_b1_ok ?h2) (SameInts_loop hs k (i + 1) (by omega))
    case h2 => simp [D_ref_SameInts_b1, hlt, e3]

theorem SameInts_refl {v : List Int} (hs : Sz v.length) : callL pg 46 [LI v, LI v] gh = some (B true, gh) := by
  have h := SameInts_loop (gh := gh) hs v.length 0 (by omega)
  simp only [Int.natCast_zero] at h
  have hk := D_ref_SameInts_k1_ok (pg := pg) (gh := gh) (e := .ret) (s := ⟨[(4, B true)], [], gh⟩) rfl
  refine callL_fn (fn := f_ref_SameInts) (s := ?s1) rfl rfl (D_ref_SameInts_0_ok ?h1) ?r1
  case h1 => simp [D_ref_SameInts_0, h, hk]; rfl
  case r1 => simp [finish, results, f_ref_SameInts, resOfs, resOf, resOk]

theorem SameLists_loop {cls : List (List Int)} (hs : SL cls) (hz : Sz cls.length) : ∀ k i, i + k = cls.length →
    runL pg f_ref_SameLists_l1 ⟨[(0, .sl false 1 (LLI cls)), (1, .sl false 1 (LLI cls)), (5, I (i : Int))], [], gh⟩ = some (.normal, ⟨[], [], gh⟩)
  | 0, i, h => by
    have hlt : ¬ i < cls.length := by omega
    refine (lp_exit (s1 := ?s1) (D_ref_SameLists_b1_ok ?h1)).trans ?r1
    case h1 => simp [D_ref_SameLists_b1, hlt]; rfl
    case r1 => simp [keep]
  | k + 1, i, h => by
    have hlt : i < cls.length := by omega
    have e3 : IntKind.i64.wrap ((i : Int) + 1) = ((i + 1 : Nat) : Int) := wrap_nat (by simp only [Sz] at hz ⊢; omega)
    have hx : (cls.map fun l => LI l)[i]? = some (LI cls[i]) := by simp [List.getElem?_eq_getElem hlt]
    have h1 := SameInts_refl (gh := gh) (hs _ (List.getElem_mem hlt))
    refine lp_next (s1 := ⟨[(0, .sl false 1 (LLI cls)), (1, .sl false 1 (LLI cls)), (5, I ((i + 1 : Nat) : Int))], [], gh⟩) (D_ref_SameLists_b1_ok ?h2) (SameLists_loop hs hz k (i + 1) (by omega))
    case h2 => simp [D_ref_SameLists_b1, hlt, hx, h1, e3, -List.getElem?_map]

theorem SameLists_refl {cls : List (List Int)} (hs : SL cls) (hz : Sz cls.length) : callL pg 95 [.sl false 1 (LLI cls), .sl false 1 (LLI cls)] gh = some (B true, gh) := by
  have h := SameLists_loop (gh := gh) hs hz cls.length 0 (by omega)
  simp only [Int.natCast_zero] at h
  have hk := D_ref_SameLists_k1_ok (pg := pg) (gh := gh) (e := .ret) (s := ⟨[(4, B true)], [], gh⟩) rfl
  generalize LLI cls = L at *
  refine callL_fn (fn := f_ref_SameLists) (s := ?s1) rfl rfl (D_ref_SameLists_0_ok ?h1) ?r1
  case h1 => simp [D_ref_SameLists_0, h, hk]; rfl
  case r1 => simp [finish, results, f_ref_SameLists, resOfs, resOf, resOk]

theorem SameCl_refl {vars : Int} {cls : List (List Int)} (hs : SL cls) (hz : Sz cls.length) : callL pg 60 [clV vars cls, clV vars cls] gh = some (B true, gh) := by
  have h := SameLists_refl (gh := gh) hs hz
  unfold clV
  refine callL_fn (fn := f_ref_SameClauses) (s := ?s1) rfl rfl (D_ref_SameClauses_0_ok ?h1) ?r1
  case h1 => simp [D_ref_SameClauses_0, h]; rfl
  case r1 => simp [finish, results, f_ref_SameClauses, resOfs, resOf, resOk]

theorem clausesAre_ok {vars : Int} {cls : List (List Int)} (hs : SL cls) (hz : Sz cls.length) : callL pg 19 [clV vars cls, I 0, I 0, clV vars cls] gh = some (B true, gh) := by
  have h := SameCl_refl (gh := gh) (vars := vars) hs hz
  unfold clV at *
  have hk := D_law_clausesAre_k1_ok (pg := pg) (gh := gh) (x1 := 0) (x2 := 0) (xc0_0 := vars) (vc0_1 := .sl false 1 (cls.map fun l => LI l)) (xc1_0 := vars) (vc1_1 := .sl false 1 (cls.map fun l => LI l)) (e := .ret) (s := ⟨[(8, B true)], [], gh⟩) (by simp [D_law_clausesAre_k1, h])
  refine callL_fn (fn := f_law_clausesAre) (s := ?s1) rfl rfl (D_law_clausesAre_0_ok ?h1) ?r1
  case h1 => simp [D_law_clausesAre_0, hk]; rfl
  case r1 => simp [finish, results, f_law_clausesAre, resOfs, resOf, resOk]

theorem clausesAre_err {e v : Int} {L : List PV} (he : e ≠ 0) : callL pg 19 [clV 0 [], I e, I e, .agg [I v, .sl false 1 L]] gh = some (B true, gh) := by
  have h := SameCl_refl (gh := gh) (vars := 0) (cls := []) (fun l h => by cases h) (by simp)
  unfold clV at *
  simp only [List.map_nil] at *
  have hk := D_law_clausesAre_k1_ok (pg := pg) (gh := gh) (x1 := e) (x2 := e) (xc0_0 := 0) (vc0_1 := .sl false 1 []) (xc1_0 := 0) (vc1_1 := .sl true 1 []) (e := .ret) (s := ⟨[(8, B true)], [], gh⟩) (by simp [D_law_clausesAre_k1, h])
  refine callL_fn (fn := f_law_clausesAre) (s := ?s1) rfl rfl (D_law_clausesAre_0_ok ?h1) ?r1
  case h1 => simp [D_law_clausesAre_0, he, hk]; rfl
  case r1 => simp [finish, results, f_law_clausesAre, resOfs, resOf, resOk]

end
end Go.Lw
end

/-! What the code of function gates_New comes to, piece by piece. Written by program (dprint.py). -/
section
set_option maxRecDepth 10000
set_option maxHeartbeats 4000000
namespace Go.Lw
open Go

def an_gates_New : Tr := (.node 19 (.ce (.bool)) (.node 11 (.agg [.int .i64, .any]) (.node 7 (.ce (.int .i64)) (.node 3 (.ce (.gp)) (.node 0 (.agg [.int .i64, .any]) .nil .nil) (.node 4 (.ce (.int .i64)) .nil .nil)) (.node 10 (.ce (.one)) (.node 9 (.ce (.one)) .nil .nil) .nil)) (.node 16 (.ce (.one)) (.node 13 (.agg [.int .i64, .any, .any]) (.node 12 (.ce (.one)) .nil .nil) (.node 14 (.ce (.gp)) .nil .nil)) (.node 18 (.ce (.int .i64)) (.node 17 (.ce (.int .i64)) .nil .nil) .nil))) (.node 30 (.ce (.int .i64)) (.node 26 (.ce (.one)) (.node 22 (.agg [.int .i64, .int .i64]) (.node 20 (.ce (.int .i64)) .nil .nil) (.node 23 (.ce (.gp)) .nil .nil)) (.node 29 (.ce (.int .i64)) (.node 27 (.agg [.int .i64, .int .i64]) .nil .nil) .nil)) (.node 33 (.ce (.int .i64)) (.node 32 (.ce (.int .i64)) (.node 31 (.ce (.int .i64)) .nil .nil) .nil) (.node 35 (.ce (.gp)) (.node 34 (.ce (.int .i64)) .nil .nil) .nil))))

noncomputable def D_gates_New_b1 (pg : Prg) (g3 : Nat) (o3 : Nat) (v16 : PV) (x17 : Int) (x18 : Int) (xc0_0 : Int) (vc0_1 : PV) (gh : List GObj) : Option (IExit × St) := 
  br 19 (decide (x18 < x17)) (
  idX 2 none (degr v16) x18 fun p1 => 
  ldX [[(.int .i64 xc0_0), vc0_1]] gh true 2 (degr p1) fun v2 => unA 2 v2 fun c3 c4 => unI .i64 c3 fun n5 => unI .i64 c4 fun n6 => stK 2 v16 (
  ob (ghCells gh g3) fun cs7 => 
  ob (grab false 1 (o3 + 2) cs7) fun v8 => isC (degr v8) (
  muX gh 2 (degr (degr v8)) (.agg [(.int .i64 n5), (.int .i64 n6)]) (.int .i64 (IntKind.i64.wrap (2 * (IntKind.i64.wrap ((IntKind.i64.wrap (1 + xc0_0)) + x18))))) fun gh9 => stK 1 v16 (stK 1 v16 (stK 1 v16 (some (.normal, ⟨[(1, (.ptr false 0 0)), (3, (.ptr true g3 o3)), (16, v16), (17, (.int .i64 x17)), (18, (.int .i64 (IntKind.i64.wrap (x18 + 1))))], [[(.int .i64 xc0_0), vc0_1]], gh9⟩))))))) (some ((.exit 0), ⟨[(1, (.ptr false 0 0)), (3, (.ptr true g3 o3)), (16, v16), (17, (.int .i64 x17)), (18, (.int .i64 x18)), (19, (.bool (decide (x18 < x17))))], [[(.int .i64 xc0_0), vc0_1]], gh⟩))

theorem D_gates_New_b1_ok {pg : Prg} {gh : List GObj} {g3 : Nat} {o3 : Nat} {v16 : PV} {x17 : Int} {x18 : Int} {xc0_0 : Int} {vc0_1 : PV} {e : IExit} {s : St} (h : D_gates_New_b1 pg g3 o3 v16 x17 x18 xc0_0 vc0_1 gh = some (e, s)) : runL pg f_gates_New_b1 ⟨[(1, (.ptr false 0 0)), (3, (.ptr true g3 o3)), (16, v16), (17, (.int .i64 x17)), (18, (.int .i64 x18))], [[(.int .i64 xc0_0), vc0_1]], gh⟩ = some (e, s) :=
  runX_ok an_gates_New (Eq.trans (by kernel_rfl) h)

noncomputable def D_gates_New_k1 (pg : Prg) (g3 : Nat) (o3 : Nat) (gh : List GObj) : Option (IExit × St) := some (.ret, ⟨[(2, (.ptr true g3 o3))], [], gh⟩)

theorem D_gates_New_k1_ok {pg : Prg} {gh : List GObj} {g3 : Nat} {o3 : Nat} {e : IExit} {s : St} (h : D_gates_New_k1 pg g3 o3 gh = some (e, s)) : runL pg f_gates_New_k1 ⟨[(3, (.ptr true g3 o3))], [], gh⟩ = some (e, s) :=
  runX_ok an_gates_New (Eq.trans (by kernel_rfl) h)

noncomputable def D_gates_New_0 (pg : Prg) (x0_0 : Int) (v0_1 : PV) (gh : List GObj) : Option (IExit × St) := onK (degr1 v0_1) (isC (degr (degr1 v0_1)) (arK (degr (degr (degr1 v0_1))) (
  callN [(degr (degr (degr1 v0_1)))] (callL pg 87 [(degr (degr (degr1 v0_1)))] []) fun r1 => isC r1 (arK r1 (isC r1 (onK r1 (onK r1 (isC (degr (degr1 v0_1)) (lenS (degr (degr (degr1 v0_1))) fun n2 => stK 1 (degr (degr1 v0_1)) (
  kR (runL pg f_gates_New_l1 ⟨[(1, (.ptr false 0 0)), (3, (.ptr true (List.length (gh ++ [.map []])) 0)), (16, (degr (degr1 v0_1))), (17, (.int .i64 (n2 : Int))), (18, (.int .i64 0))], [[(.int .i64 x0_0), (degr1 v0_1)]], ((gh ++ [.map []]) ++ [.cells [(.int .i64 x0_0), r1, (.mp (List.length gh))]])⟩) (fun e s => nx e s (fun e s => some (e, s)) fun s => kR (runL pg f_gates_New_k1 s) (fun e s => some (e, s)))))))))))))

theorem D_gates_New_0_ok {pg : Prg} {gh : List GObj} {x0_0 : Int} {v0_1 : PV} {e : IExit} {s : St} (h : D_gates_New_0 pg x0_0 v0_1 gh = some (e, s)) : runL pg f_gates_New_0 ⟨[(0, (.agg [(.int .i64 x0_0), v0_1]))], [], gh⟩ = some (e, s) :=
  runX_ok an_gates_New (Eq.trans (by kernel_rfl) h)

end Go.Lw
end

/-! What the code of function gates_Maker_And comes to, piece by piece. Written by program (dprint.py). -/
section
set_option maxRecDepth 10000
set_option maxHeartbeats 4000000
namespace Go.Lw
open Go

def an_gates_Maker_And : Tr := (.node 32 (.ce (.bool)) (.node 18 (.ce (.bool)) (.node 11 (.ce (.int .i64)) (.node 6 (.ce (.int .i64)) (.node 1 (.ce (.int .i64)) (.node 0 (.ce (.gp)) .nil .nil) (.node 2 (.ce (.int .i64)) .nil .nil)) (.node 9 (.ce (.bool)) (.node 8 (.ce (.int .i64)) .nil .nil) (.node 10 (.ce (.int .i64)) .nil .nil))) (.node 15 (.ce (.int .i64)) (.node 13 (.ce (.bool)) (.node 12 (.ce (.int .i64)) .nil .nil) (.node 14 (.ce (.int .i64)) .nil .nil)) (.node 17 (.ce (.int .i64)) (.node 16 (.ce (.bool)) .nil .nil) .nil))) (.node 25 (.ce (.bool)) (.node 22 (.ce (.int .i64)) (.node 20 (.ce (.int .i64)) (.node 19 (.ce (.bool)) .nil .nil) (.node 21 (.ce (.int .i64)) .nil .nil)) (.node 24 (.ce (.bool)) (.node 23 (.ce (.bool)) .nil .nil) .nil)) (.node 29 (.ce (.int .i64)) (.node 27 (.ce (.bool)) (.node 26 (.ce (.int .i64)) .nil .nil) (.node 28 (.ce (.bool)) .nil .nil)) (.node 31 (.ce (.bool)) (.node 30 (.ce (.int .i64)) .nil .nil) .nil)))) (.node 51 (.agg [.int .i64, .any]) (.node 42 (.agg [.int .i64, .int .i64]) (.node 36 (.agg [.int .i64, .int .i64]) (.node 34 (.ce (.int .i64)) (.node 33 (.ce (.int .i64)) .nil .nil) (.node 35 (.ce (.int .i64)) .nil .nil)) (.node 38 (.ce (.gp)) (.node 37 (.tup 2) .nil .nil) (.node 41 (.ce (.one)) .nil .nil))) (.node 46 (.ce (.bool)) (.node 44 (.ce (.int .i64)) (.node 43 (.tup 2) .nil .nil) (.node 45 (.ce (.bool)) .nil .nil)) (.node 48 (.ce (.gp)) (.node 47 (.ce (.int .i64)) .nil .nil) .nil))) (.node 61 (.ce (.one)) (.node 55 (.ce (.gp)) (.node 53 (.ce (.int .i64)) (.node 52 (.ce (.int .i64)) .nil .nil) (.node 54 (.ce (.gp)) .nil .nil)) (.node 60 (.agg [.int .i64, .int .i64]) (.node 59 (.ce (.one)) .nil .nil) .nil)) (.node 70 (.agg [.int .i64, .int .i64]) (.node 66 (.ce (.gp)) (.node 62 (.ce (.one)) .nil .nil) (.node 69 (.ce (.one)) .nil .nil)) (.node 72 (.ce (.int .i64)) (.node 71 (.ce (.int .i64)) .nil .nil) .nil)))))

noncomputable def D_gates_Maker_And_k1 (pg : Prg) (g0 : Nat) (o0 : Nat) (x1 : Int) (x2 : Int) (gh : List GObj) : Option (IExit × St) := 
  br 19 (x1 == 0) (some (.ret, ⟨[(6, (.int .i64 0))], [], gh⟩)) (
  br 16 ((iXor .i64 x1 1) == x2) (some (.ret, ⟨[(6, (.int .i64 0))], [], gh⟩)) (
  br 28 (x1 == 1) (some (.ret, ⟨[(6, (.int .i64 x2))], [], gh⟩)) (
  br 25 (x1 == x2) (some (.ret, ⟨[(6, (.int .i64 x2))], [], gh⟩)) (
  ob (ghCells gh g0) fun cs1 => 
  ob (grab false 1 (o0 + 2) cs1) fun v2 => isC (degr v2) (
  lkX gh 2 (degr (degr v2)) (.agg [(.int .i64 x1), (.int .i64 x2)]) fun r3 => unI .i64 (degr1 (degr1 (Option.getD r3 (.int .i64 0)))) fun n4 => 
  br 46 (Option.isSome r3) (some (.ret, ⟨[(6, (.int .i64 n4))], [], gh⟩)) (
  ob (ghCells gh g0) fun cs5 => 
  ob (grab true 2 (o0 + 0) cs5) fun v6 => unA 2 (degr v6) fun c7 c8 => unI .i64 c7 fun n9 => onK (degr1 c8) (
  callR gh true (callL pg 88 [(.agg [(.int .i64 n9), (degr1 c8)])] gh) fun r10 gh11 => unI .i64 r10 fun n12 => 
  ob (ghCells gh11 g0) fun cs13 => ob (cs13[((o0 + 0) + 1)]?) fun v14 => 
  apX 2 16 v14 (.sl false 2 [(.agg [(.int .i64 x1), (.int .i64 x2)])]) fun l15 => 
  ob (ghCells (List.set gh11 g0 (.cells (spliceAt cs13 ((o0 + 0) + 1) [degr1 v14]))) g0) fun cs16 => gb (stOk 1 ((o0 + 0) + 1) [(.sl true 2 l15)] cs16) (
  ob (ghCells (List.set (List.set gh11 g0 (.cells (spliceAt cs13 ((o0 + 0) + 1) [degr1 v14]))) g0 (.cells (spliceAt cs16 ((o0 + 0) + 1) [(.sl true 2 l15)]))) g0) fun cs17 => 
  ob (grab false 1 (o0 + 2) cs17) fun v18 => isC (degr v18) (
  muX (List.set (List.set gh11 g0 (.cells (spliceAt cs13 ((o0 + 0) + 1) [degr1 v14]))) g0 (.cells (spliceAt cs16 ((o0 + 0) + 1) [(.sl true 2 l15)]))) 2 (degr (degr v18)) (.agg [(.int .i64 x1), (.int .i64 x2)]) (.int .i64 (IntKind.i64.wrap (2 * n12))) fun gh19 => some (.ret, ⟨[(6, (.int .i64 (IntKind.i64.wrap (2 * n12))))], [], gh19⟩))))))))))

theorem D_gates_Maker_And_k1_ok {pg : Prg} {gh : List GObj} {g0 : Nat} {o0 : Nat} {x1 : Int} {x2 : Int} {e : IExit} {s : St} (h : D_gates_Maker_And_k1 pg g0 o0 x1 x2 gh = some (e, s)) : runL pg f_gates_Maker_And_k1 ⟨[(0, (.ptr true g0 o0)), (1, (.int .i64 x1)), (2, (.int .i64 x2))], [], gh⟩ = some (e, s) :=
  runX_ok an_gates_Maker_And (Eq.trans (by kernel_rfl) h)

noncomputable def D_gates_Maker_And_0 (pg : Prg) (g0 : Nat) (o0 : Nat) (x1 : Int) (x2 : Int) (gh : List GObj) : Option (IExit × St) := 
  br 13 (decide (x2 < x1)) (
  kR (runL pg f_gates_Maker_And_k1 ⟨[(0, (.ptr true g0 o0)), (1, (.int .i64 x2)), (2, (.int .i64 x1))], [], gh⟩) (fun e s => some (e, s))) (
  kR (runL pg f_gates_Maker_And_k1 ⟨[(0, (.ptr true g0 o0)), (1, (.int .i64 x1)), (2, (.int .i64 x2))], [], gh⟩) (fun e s => some (e, s)))

theorem D_gates_Maker_And_0_ok {pg : Prg} {gh : List GObj} {g0 : Nat} {o0 : Nat} {x1 : Int} {x2 : Int} {e : IExit} {s : St} (h : D_gates_Maker_And_0 pg g0 o0 x1 x2 gh = some (e, s)) : runL pg f_gates_Maker_And_0 ⟨[(0, (.ptr true g0 o0)), (1, (.int .i64 x1)), (2, (.int .i64 x2))], [], gh⟩ = some (e, s) :=
  runX_ok an_gates_Maker_And (Eq.trans (by kernel_rfl) h)

end Go.Lw
end

/-! What the code of function gates_And comes to, piece by piece. Written by program (dprint.py). -/
section
set_option maxRecDepth 10000
set_option maxHeartbeats 4000000
namespace Go.Lw
open Go

def an_gates_And : Tr := (.node 21 (.ce (.one)) (.node 12 (.agg [.int .i64, .any]) (.node 8 (.ce (.int .i64)) (.node 2 (.ce (.int .i64)) (.node 1 (.ce (.int .i64)) (.node 0 (.agg [.int .i64, .any]) .nil .nil) .nil) (.node 7 (.ce (.int .i64)) .nil .nil)) (.node 10 (.ce (.gp)) (.node 9 (.ce (.int .i64)) .nil .nil) (.node 11 (.ce (.int .i64)) .nil .nil))) (.node 17 (.ce (.int .i64)) (.node 15 (.ce (.bool)) (.node 14 (.ce (.int .i64)) (.node 13 (.ce (.int .i64)) .nil .nil) .nil) (.node 16 (.agg [.int .i64, .any]) .nil .nil)) (.node 19 (.ce (.int .i64)) (.node 18 (.agg [.int .i64, .any]) .nil .nil) (.node 20 (.ce (.int .i64)) .nil .nil)))) (.node 30 (.ce (.int .i64)) (.node 26 (.ce (.gp)) (.node 24 (.agg [.int .i64, .any]) (.node 23 (.ce (.bool)) (.node 22 (.ce (.bool)) .nil .nil) .nil) (.node 25 (.agg [.int .i64, .any]) .nil .nil)) (.node 28 (.ce (.int .i64)) (.node 27 (.ce (.gp)) .nil .nil) (.node 29 (.ce (.int .i64)) .nil .nil))) (.node 38 (.agg [.int .i64, .any]) (.node 36 (.ce (.int .i64)) (.node 35 (.ce (.one)) (.node 31 (.ce (.gp)) .nil .nil) .nil) (.node 37 (.ce (.bool)) .nil .nil)) (.node 42 (.agg [.int .i64, .any]) (.node 39 (.ce (.gp)) .nil .nil) (.node 43 (.ce (.int .i64)) .nil .nil)))))

noncomputable def D_gates_And_0 (pg : Prg) (x0_0 : Int) (v0_1 : PV) (x1 : Int) (x2 : Int) (gh : List GObj) : Option (IExit × St) := onK (degr1 v0_1) (onK (degr1 (degr1 (degr1 v0_1))) (
  callR gh true (callL pg 6 [(.agg [(.int .i64 x0_0), (degr1 (degr1 (degr1 v0_1)))])] gh) fun r1 gh2 => unI .i64 r1 fun n3 => 
  br 15 (n3 != 0) (some (.ret, ⟨[(6, (.ptr false 1 0)), (7, (.int .i64 0)), (8, (.int .i64 n3))], [[(.int .i64 x0_0), (degr1 v0_1)], [(.int .i64 0), (.sl true 2 [])]], gh2⟩)) (onK (degr1 (degr1 (degr1 v0_1))) (
  callR gh2 true (callL pg 47 [(.agg [(.int .i64 x0_0), (degr1 (degr1 (degr1 v0_1)))]), (.sl false 1 [(.int .i64 x1), (.int .i64 x2)])] gh2) fun r4 gh5 => unB r4 fun b6 => 
  br 23 (!b6) (some (.ret, ⟨[(6, (.ptr false 1 0)), (7, (.int .i64 0)), (8, (.int .i64 5))], [[(.int .i64 x0_0), (degr1 v0_1)], [(.int .i64 0), (.sl true 2 [])]], gh5⟩)) (onK (degr1 (degr1 (degr1 v0_1))) (
  callR gh5 false (callL pg 48 [(.agg [(.int .i64 x0_0), (degr1 (degr1 (degr1 v0_1)))])] gh5) fun r7 gh8 => unG r7 fun g9 o10 => 
  callR gh8 false (callL pg 49 [(.ptr true g9 o10), (.int .i64 x1), (.int .i64 x2)] gh8) fun r11 gh12 => unI .i64 r11 fun n13 => 
  ob (ghCells gh12 g9) fun cs14 => 
  ob (grab false 1 ((o10 + 0) + 1) cs14) fun v15 => isC (degr v15) (lenS (degr (degr v15)) fun n16 => 
  br 37 (decide (1000000 < (n16 : Int))) (some (.ret, ⟨[(6, (.ptr false 1 0)), (7, (.int .i64 0)), (8, (.int .i64 2))], [[(.int .i64 x0_0), (degr1 v0_1)], [(.int .i64 0), (.sl true 2 [])]], gh12⟩)) (
  ob (ghCells gh12 g9) fun cs17 => 
  ob (grab true 2 (o10 + 0) cs17) fun v18 => unA 2 (degr v18) fun c19 c20 => unI .i64 c19 fun n21 => onK c20 (some (.ret, ⟨[(6, (.ptr false 1 0)), (7, (.int .i64 n13)), (8, (.int .i64 0))], [[(.int .i64 x0_0), (degr1 v0_1)], [(.int .i64 n21), c20]], gh12⟩))))))))))

theorem D_gates_And_0_ok {pg : Prg} {gh : List GObj} {x0_0 : Int} {v0_1 : PV} {x1 : Int} {x2 : Int} {e : IExit} {s : St} (h : D_gates_And_0 pg x0_0 v0_1 x1 x2 gh = some (e, s)) : runL pg f_gates_And_0 ⟨[(0, (.agg [(.int .i64 x0_0), v0_1])), (1, (.int .i64 x1)), (2, (.int .i64 x2))], [], gh⟩ = some (e, s) :=
  runX_ok an_gates_And (Eq.trans (by kernel_rfl) h)

end Go.Lw
end

/-! Ands of a graph: what the program makes. -/
section
namespace Go.Lw
open Go

/-- The place of an And among others. -/
def atA : List (Int × Int) → Int × Int → Option Nat
  | [], _ => none
  | y :: l, x => if x = y then some 0 else (atA l x).map (· + 1)

theorem atA_none {l : List (Int × Int)} {x : Int × Int} : atA l x = none ↔ x ∉ l := by
  induction l with
  | nil => simp [atA]
  | cons y l ih =>
    rw [atA]
    split
    · rename_i h; subst h; simp
    · rename_i h
      simp [ih, h]

theorem atA_lt {l : List (Int × Int)} {x : Int × Int} {i : Nat} (h : atA l x = some i) : i < l.length ∧ l[i]? = some x := by
  induction l generalizing i with
  | nil => simp [atA] at h
  | cons y l ih =>
    rw [atA] at h
    split at h
    · rename_i hx; cases h; subst hx; simp
    · simp only [Option.map_eq_some_iff] at h
      obtain ⟨j, hj, rfl⟩ := h
      obtain ⟨h1, h2⟩ := ih hj
      exact ⟨by simp; omega, by simpa using h2⟩

/-- What New writes into its map. -/
def byL (ins : Int) : Nat → List (Int × Int) → List ((Int × Int) × PV)
  | _, [] => []
  | i, x :: l => (x, I (2 * (1 + ins + i))) :: byL ins (i + 1) l

theorem byL_keys (ins : Int) : ∀ (i : Nat) (l : List (Int × Int)), (byL ins i l).map (·.1) = l
  | _, [] => rfl
  | i, x :: l => by simp [byL, byL_keys ins (i + 1) l]

theorem byL_find (ins : Int) (x : Int × Int) : ∀ (i : Nat) (l : List (Int × Int)), findA (byL ins i l) x = (atA l x).map fun j => I (2 * (1 + ins + ((i + j : Nat) : Int)))
  | _, [] => rfl
  | i, y :: l => by
    rw [byL, findA, atA]
    split
    · simp
    · rw [byL_find ins x (i + 1) l]
      cases atA l x with
      | none => rfl
      | some j => simp; omega

theorem noGs_ands (l : List (Int × Int)) : noGs (l.map andV) = true := by
  induction l with
  | nil => rfl
  | cons x l ih => simp [andV, ih]

section
variable {gh : List GObj} {x y z : GObj}
theorem g2_get0 : (gh ++ [x, y])[gh.length]? = some x := by simp
theorem g2_get1 : (gh ++ [x, y])[gh.length + 1]? = some y := by simp
theorem g2_set0 : (gh ++ [x, y]).set gh.length z = gh ++ [z, y] := by simp
theorem g2_set1 : (gh ++ [x, y]).set (gh.length + 1) z = gh ++ [x, z] := by simp [List.set_append_right]
end

/-- What a maker has behind it. -/
def mkG (gh : List GObj) (ins : Int) (ands : List (Int × Int)) (m : List ((Int × Int) × PV)) : List GObj := gh ++ [.map (mapA m), .cells [I ins, .sl true 2 (ands.map andV), .mp gh.length]]

theorem mset_and {m : List ((Int × Int) × PV)} {a b : Int} {v : PV} : mset 2 (mapA m) (.agg [I a, I b]) v = some (mapA (setA m (a, b) v)) := mset_mapA m (a, b) v
theorem mfind_and {m : List ((Int × Int) × PV)} {a b : Int} : mfind 2 (mapA m) (.agg [I a, I b]) = some (findA m (a, b)) := mfind_mapA m (a, b)

section
variable {ins : Int} {ands : List (Int × Int)} {gh : List GObj}

def newSt (gh : List GObj) (ins : Int) (ands : List (Int × Int)) (m : List ((Int × Int) × PV)) (i : Nat) : St :=
  ⟨[(1, .ptr false 0 0), (3, .ptr true (gh.length + 1) 0), (16, .sl false 2 (ands.map andV)), (17, I ands.length), (18, I (i : Int))], [[I ins, .sl false 2 (ands.map andV)]], mkG gh ins ands m⟩

theorem New_b1 (hi : 0 ≤ ins ∧ ins ≤ 1000) (hl : ands.length ≤ 1000000) {i : Nat} (hlt : i < ands.length) (m : List ((Int × Int) × PV)) :
    D_gates_New_b1 pg (gh.length + 1) 0 (.sl false 2 (ands.map andV)) ands.length i ins (.sl false 2 (ands.map andV)) (mkG gh ins ands m) = some (.normal, newSt gh ins ands (setA m ands[i] (I (2 * (1 + ins + i)))) (i + 1)) := by
  have e2 : IntKind.i64.wrap ((i : Int) + 1) = ((i + 1 : Nat) : Int) := by rw [wrap_id (by omega) (by omega)]; omega
  have hx : (ands.map andV)[i]? = some (.agg [I ands[i].1, I ands[i].2]) := by simp [List.getElem?_eq_getElem hlt, andV]
  generalize hy : ands[i] = x at *
  obtain ⟨a, b⟩ := x
  simp only at hx
  have eN : IntKind.i64.wrap (2 * IntKind.i64.wrap (IntKind.i64.wrap (1 + ins) + (i : Int))) = 2 * (1 + ins + i) := by
    rw [wrap_id (n := 1 + ins) (by omega) (by omega), wrap_id (n := 1 + ins + i) (by omega) (by omega), wrap_id (by omega) (by omega)]
  have hltI : (i : Int) < (ands.length : Int) := by omega
  simp [D_gates_New_b1, hltI, hx, eN, e2, mkG, newSt, mset_and, -List.getElem?_map, g2_get0, g2_get1, g2_set0]

theorem New_loop (hi : 0 ≤ ins ∧ ins ≤ 1000) (hl : ands.length ≤ 1000000) (hnd : ands.Nodup) : ∀ k i, i + k = ands.length →
    runL pg f_gates_New_l1 (newSt gh ins ands (byL ins 0 (ands.take i)) i) = some (.normal, ⟨[(3, .ptr true (gh.length + 1) 0)], [], mkG gh ins ands (byL ins 0 ands)⟩)
  | 0, i, h => by
    rw [List.take_of_length_le (by omega)]
    have hlt : ¬ (i : Int) < (ands.length : Int) := by omega
    refine (lp_exit (s1 := ?s1) (D_gates_New_b1_ok ?h1)).trans ?r1
    case h1 => simp only [D_gates_New_b1, decide_eq_false hlt, br_false]; rfl
    case r1 => rfl
  | k + 1, i, h => by
    have hlt : i < ands.length := by omega
    refine lp_next (D_gates_New_b1_ok (New_b1 hi hl hlt _)) ?_
    have hnk : ands[i] ∉ (byL ins 0 (ands.take i)).map (·.1) := by
      rw [byL_keys]
      intro hm
      obtain ⟨j, hj, he⟩ := List.getElem_of_mem hm
      rw [List.getElem_take] at he
      have hji : j < i := by simp at hj; omega
      have := (List.nodup_iff_pairwise_ne.1 hnd)
      have := List.pairwise_iff_getElem.1 this j i (by omega) hlt hji
      exact this he
    have hstep : setA (byL ins 0 (ands.take i)) ands[i] (I (2 * (1 + ins + i))) = byL ins 0 (ands.take (i + 1)) := by
      rw [setA_new hnk, List.take_add_one, List.getElem?_eq_getElem hlt]
      have : ∀ (j : Nat) (l : List (Int × Int)) (x : Int × Int), byL ins j l ++ [(x, I (2 * (1 + ins + ((j + l.length : Nat) : Int))))] = byL ins j (l ++ [x]) := by
        intro j l
        induction l generalizing j with
        | nil => intro x; simp [byL]
        | cons y l ih =>
          intro x
          have := ih (j + 1) x
          rw [show j + 1 + l.length = j + (y :: l).length by simp; omega] at this
          simp only [byL, List.cons_append, this]
      have h2 := this 0 (ands.take i) ands[i]
      rw [List.length_take, Nat.min_eq_left (by omega), Nat.zero_add] at h2
      simpa using h2
    rw [hstep]
    exact New_loop hi hl hnd k (i + 1) (by omega)

theorem Clone2_eq {o : Bool} {xs : List PV} (h : xs.length * 16 ≤ maxBytes) : callL pg 87 [.sl o 2 xs] gh = some (.sl true 2 xs, gh) := by
  have : callL pg 87 [.sl o 2 xs] gh = libClone 2 16 [.sl o 2 xs] gh := rfl
  rw [this, libClone, if_pos ⟨rfl, h⟩]

theorem New_eq (hi : 0 ≤ ins ∧ ins ≤ 1000) (hl : ands.length ≤ 1000000) (hnd : ands.Nodup) : callL pg 48 [graphV ins ands] gh = some (.ptr true (gh.length + 1) 0, mkG gh ins ands (byL ins 0 ands)) := by
  have hmx : maxBytes = 140737488355328 := rfl
  have hc : callL pg 87 [.sl false 2 (ands.map andV)] [] = some (.sl true 2 (ands.map andV), []) := Clone2_eq (by simp; omega)
  have hl1 := New_loop (gh := gh) hi hl hnd ands.length 0 (by omega)
  unfold newSt mkG at hl1
  have e0 : mapA (byL ins 0 (ands.take 0)) = [] := rfl
  rw [e0] at hl1
  simp only [Int.natCast_zero] at hl1
  have hk := D_gates_New_k1_ok (pg := pg) (gh := mkG gh ins ands (byL ins 0 ands)) (g3 := gh.length + 1) (o3 := 0) (e := .ret) (s := ⟨[(2, .ptr true (gh.length + 1) 0)], [], mkG gh ins ands (byL ins 0 ands)⟩) rfl
  unfold mkG at hk
  refine callL_fn (fn := f_gates_New) (s := ⟨[(2, .ptr true (gh.length + 1) 0)], [], mkG gh ins ands (byL ins 0 ands)⟩) rfl rfl (D_gates_New_0_ok ?h1) ?r1
  case h1 => simp [D_gates_New_0, hc, noGs_ands, hl1, hk, mkG]
  case r1 => simp [finish, results, f_gates_New, resOfs, resOf, resOk]

/-- The And of two literals, the lesser first: the Ands then, and the literal. -/
def andR (ins : Int) (ands : List (Int × Int)) (a b : Int) : List (Int × Int) × Int :=
  if a = 0 ∨ (a / 2 = b / 2 ∧ a ≠ b) then (ands, 0) else if a = 1 ∨ a = b then (ands, b)
  else match atA ands (a, b) with
    | some i => (ands, 2 * (1 + ins + i))
    | none => (ands ++ [(a, b)], 2 * nodesOf ins ands)

/-- The And of two literals. -/
def andOf (ins : Int) (ands : List (Int × Int)) (a b : Int) : List (Int × Int) × Int := if b < a then andR ins ands b a else andR ins ands a b

theorem xor_iff {a b : Int} (ha : 0 ≤ a ∧ a < 2002002) (hb : 0 ≤ b) : (iXor .i64 a 1 = b) ↔ (a / 2 = b / 2 ∧ a ≠ b) := by
  obtain ⟨A, rfl⟩ : ∃ n : Nat, a = n := ⟨a.toNat, by omega⟩
  obtain ⟨B', rfl⟩ : ∃ n : Nat, b = n := ⟨b.toNat, by omega⟩
  rw [iXor1 (by omega)]
  omega

theorem Maker_k1 (hi : 0 ≤ ins ∧ ins ≤ 1000) (hl : ands.length ≤ 1000000) {a b : Int} (ha : 0 ≤ a ∧ a < 2002002) (hb : 0 ≤ b) :
    ∃ m', runL pg f_gates_Maker_And_k1 ⟨[(0, .ptr true (gh.length + 1) 0), (1, I a), (2, I b)], [], mkG gh ins ands (byL ins 0 ands)⟩ = some (.ret, ⟨[(6, I (andR ins ands a b).2)], [], mkG gh ins (andR ins ands a b).1 m'⟩) := by
  by_cases h1 : a = 0
  · refine ⟨byL ins 0 ands, D_gates_Maker_And_k1_ok ?_⟩
    simp [D_gates_Maker_And_k1, h1, andR]
  by_cases h2 : iXor .i64 a 1 = b
  · refine ⟨byL ins 0 ands, D_gates_Maker_And_k1_ok ?_⟩
    have e : andR ins ands a b = (ands, 0) := by unfold andR; rw [if_pos (.inr ((xor_iff ha hb).1 h2))]
    rw [e]
    simp [D_gates_Maker_And_k1, h1, h2]
  have h2' : ¬ (a / 2 = b / 2 ∧ a ≠ b) := fun h => h2 ((xor_iff ha hb).2 h)
  have e0 : andR ins ands a b = if a = 1 ∨ a = b then (ands, b) else match atA ands (a, b) with
    | some i => (ands, 2 * (1 + ins + i))
    | none => (ands ++ [(a, b)], 2 * nodesOf ins ands) := by unfold andR; rw [if_neg (by rintro (h | h); exact h1 h; exact h2' h)]
  rw [e0]
  by_cases h3 : a = 1
  · refine ⟨byL ins 0 ands, D_gates_Maker_And_k1_ok ?_⟩
    rw [if_pos (.inl h3)]
    subst h3
    simp [D_gates_Maker_And_k1, h2]
  by_cases h4 : a = b
  · refine ⟨byL ins 0 ands, D_gates_Maker_And_k1_ok ?_⟩
    rw [if_pos (.inr h4)]
    subst h4
    simp [D_gates_Maker_And_k1, h1, h2, h3]
  rw [if_neg (by rintro (h | h); exact h3 h; exact h4 h)]
  have hfind : findA (byL ins 0 ands) (a, b) = (atA ands (a, b)).map fun j => I (2 * (1 + ins + ((0 + j : Nat) : Int))) := byL_find ins (a, b) 0 ands
  cases hat : atA ands (a, b) with
  | some i =>
    rw [hat] at hfind
    simp only [Option.map_some, Nat.zero_add] at hfind
    refine ⟨byL ins 0 ands, D_gates_Maker_And_k1_ok ?_⟩
    simp [D_gates_Maker_And_k1, h1, h2, h3, h4, mkG, mfind_and, hfind]
  | none =>
    rw [hat] at hfind
    simp only [Option.map_none] at hfind
    have hN := Nodes_ok (gh := mkG gh ins ands (byL ins 0 ands)) hi (show ands.length ≤ 1000001 by omega)
    unfold graphV mkG at hN
    have ew : IntKind.i64.wrap (2 * nodesOf ins ands) = 2 * nodesOf ins ands := by unfold nodesOf; exact wrap_id (by omega) (by omega)
    have hmx : (ands.length + 1) * 16 ≤ maxBytes := by
      have : maxBytes = 140737488355328 := rfl
      omega
    refine ⟨setA (byL ins 0 ands) (a, b) (I (2 * nodesOf ins ands)), D_gates_Maker_And_k1_ok ?_⟩
    simp [D_gates_Maker_And_k1, h1, h2, h3, h4, mkG, mfind_and, hfind, hN, ew, hmx, spliceAt, mset_and, andV]

theorem Maker_eq (hi : 0 ≤ ins ∧ ins ≤ 1000) (hl : ands.length ≤ 1000000) {a b : Int} (ha : 0 ≤ a ∧ a < 2002002) (hb : 0 ≤ b ∧ b < 2002002) :
    ∃ m', callL pg 49 [.ptr true (gh.length + 1) 0, I a, I b] (mkG gh ins ands (byL ins 0 ands)) = some (I (andOf ins ands a b).2, mkG gh ins (andOf ins ands a b).1 m') := by
  by_cases h : b < a
  · obtain ⟨m', hm⟩ := Maker_k1 (gh := gh) hi hl hb ha.1
    refine ⟨m', callL_fn (fn := f_gates_Maker_And) (s := ⟨[(6, I (andOf ins ands a b).2)], [], mkG gh ins (andOf ins ands a b).1 m'⟩) rfl rfl (D_gates_Maker_And_0_ok ?h1) ?r1⟩
    case h1 => rw [D_gates_Maker_And_0, decide_eq_true h, br_true, hm, kR_some, andOf, if_pos h]
    case r1 => simp [finish, results, f_gates_Maker_And, resOfs, resOf, resOk]
  · obtain ⟨m', hm⟩ := Maker_k1 (gh := gh) hi hl ha hb.1
    refine ⟨m', callL_fn (fn := f_gates_Maker_And) (s := ⟨[(6, I (andOf ins ands a b).2)], [], mkG gh ins (andOf ins ands a b).1 m'⟩) rfl rfl (D_gates_Maker_And_0_ok ?h2) ?r2⟩
    case h2 => rw [D_gates_Maker_And_0, decide_eq_false h, br_false, hm, kR_some, andOf, if_neg h]
    case r2 => simp [finish, results, f_gates_Maker_And, resOfs, resOf, resOk]

/-- What And answers: the graph, the literal, the error. -/
def andE (ins : Int) (ands : List (Int × Int)) (a b : Int) : (Int × List (Int × Int)) × Int × Int :=
  if chkE ins ands ≠ 0 then ((0, []), 0, chkE ins ands)
  else if ¬ (isLit ins ands a = true ∧ isLit ins ands b = true) then ((0, []), 0, 5)
  else if 1000000 < (andOf ins ands a b).1.length then ((0, []), 0, 2)
  else ((ins, (andOf ins ands a b).1), (andOf ins ands a b).2, 0)

theorem isLit_lt (hi : 0 ≤ ins ∧ ins ≤ 1000) (hl : ands.length ≤ 1000000) {n : Int} (h : isLit ins ands n = true) : 0 ≤ n ∧ n < 2002002 := by
  unfold isLit nodesOf at h
  rw [decide_eq_true_eq] at h
  omega

theorem And_eq (hr : RA ands) (a b : Int) :
    callL pg 1 [graphV ins ands, I a, I b] gh = some (.tup [graphV (andE ins ands a b).1.1 (andE ins ands a b).1.2, I (andE ins ands a b).2.1, I (andE ins ands a b).2.2], gh) := by
  have hC := Check_eq (ins := ins) (gh := gh) hr
  unfold graphV at hC
  by_cases hc : chkE ins ands = 0
  · obtain ⟨hi, hl, hok, hnd⟩ := chkE_zero hc
    have hI : callL pg 47 [.agg [I ins, .sl false 2 (ands.map andV)], .sl false 1 [I a, I b]] gh = some (B (isLit ins ands a && isLit ins ands b), gh) := by
      have h := Is_eq (ands := ands) (gh := gh) hi hl (lits := [a, b]) (by simp)
      rw [show [a, b].all (isLit ins ands) = (isLit ins ands a && isLit ins ands b) by simp] at h
      exact h
    cases hab : (isLit ins ands a && isLit ins ands b) with
    | false =>
      have e : andE ins ands a b = ((0, []), 0, 5) := by
        unfold andE
        rw [if_neg (fun h => h hc), if_pos]
        intro h; rw [h.1, h.2] at hab; cases hab
      rw [e]
      rw [hab] at hI
      refine callL_fn (fn := f_gates_And) (s := ?s1) rfl rfl (D_gates_And_0_ok ?h1) ?r1
      case h1 => simp [D_gates_And_0, graphV, hC, hc, hI]; rfl
      case r1 => simp [finish, results, f_gates_And, resOfs, resOf, resOk, St.cellsAt, graphV]
    | true =>
      rw [hab] at hI
      simp only [Bool.and_eq_true] at hab
      have hN := New_eq (gh := gh) hi hl hnd
      unfold graphV at hN
      obtain ⟨m', hM⟩ := Maker_eq (gh := gh) hi hl (isLit_lt hi hl hab.1) (isLit_lt hi hl hab.2)
      unfold mkG at hN hM
      by_cases hm : 1000000 < (andOf ins ands a b).1.length
      · have e : andE ins ands a b = ((0, []), 0, 2) := by
          unfold andE
          rw [if_neg (fun h => h hc), if_neg (fun h => h hab), if_pos hm]
        rw [e]
        refine callL_fn (fn := f_gates_And) (s := ?s2) rfl rfl (D_gates_And_0_ok ?h2) ?r2
        case h2 => simp [D_gates_And_0, graphV, hC, hc, hI, hN, hM, mkG, show (1000000 : Int) < ((andOf ins ands a b).1.length : Int) by omega]; rfl
        case r2 => simp [finish, results, f_gates_And, resOfs, resOf, resOk, St.cellsAt, graphV]
      · have e : andE ins ands a b = ((ins, (andOf ins ands a b).1), (andOf ins ands a b).2, 0) := by
          unfold andE
          rw [if_neg (fun h => h hc), if_neg (fun h => h hab), if_neg hm]
        rw [e]
        refine callL_fn (fn := f_gates_And) (s := ?s3) rfl rfl (D_gates_And_0_ok ?h3) ?r3
        case h3 => simp [D_gates_And_0, graphV, hC, hc, hI, hN, hM, mkG, show ¬ (1000000 : Int) < ((andOf ins ands a b).1.length : Int) by omega]; rfl
        case r3 => simp [finish, results, f_gates_And, resOfs, resOf, resOk, St.cellsAt, graphV, noGs_ands]
  · have e : andE ins ands a b = ((0, []), 0, chkE ins ands) := by unfold andE; rw [if_pos hc]
    rw [e]
    refine callL_fn (fn := f_gates_And) (s := ?s4) rfl rfl (D_gates_And_0_ok ?h4) ?r4
    case h4 => simp [D_gates_And_0, graphV, hC, hc]; rfl
    case r4 => simp [finish, results, f_gates_And, resOfs, resOf, resOk, St.cellsAt, graphV]

end
end Go.Lw
end

/-! What the code of function gates_All comes to, piece by piece. Written by program (dprint.py). -/
section
set_option maxRecDepth 10000
set_option maxHeartbeats 4000000
namespace Go.Lw
open Go

def an_gates_All : Tr := (.node 19 (.agg [.int .i64, .int .i64]) (.node 10 (.ce (.one)) (.node 5 (.ce (.gp)) (.node 1 (.ce (.one)) (.node 0 (.agg [.int .i64, .any]) .nil .nil) (.node 4 (.ce (.one)) .nil .nil)) (.node 9 (.ce (.one)) (.node 6 (.ce (.one)) .nil .nil) .nil)) (.node 15 (.ce (.int .i64)) (.node 12 (.ce (.one)) (.node 11 (.ce (.one)) .nil .nil) (.node 14 (.ce (.one)) .nil .nil)) (.node 17 (.ce (.bool)) (.node 16 (.ce (.int .i64)) .nil .nil) .nil))) (.node 28 (.ce (.int .i64)) (.node 24 (.ce (.bool)) (.node 21 (.ce (.one)) (.node 20 (.ce (.one)) .nil .nil) (.node 23 (.ce (.int .i64)) .nil .nil)) (.node 26 (.ce (.one)) (.node 25 (.ce (.bool)) .nil .nil) .nil)) (.node 32 (.ce (.one)) (.node 30 (.ce (.bool)) (.node 29 (.ce (.bool)) .nil .nil) (.node 31 (.ce (.one)) .nil .nil)) (.node 34 (.ce (.one)) (.node 33 (.ce (.int .i64)) .nil .nil) .nil))))

noncomputable def D_gates_All_b1 (pg : Prg) (g5 : Nat) (o5 : Nat) (v6 : PV) (v14 : PV) (x15 : Int) (x16 : Int) (gh : List GObj) : Option (IExit × St) := 
  br 17 (decide (x16 < x15)) (
  idX 2 none (degr v14) x16 fun p1 => 
  ldX [] gh true 2 (degr p1) fun v2 => unA 2 v2 fun c3 c4 => unI .i64 c3 fun n5 => unI .i64 c4 fun n6 => stK 1 v6 (stK 1 v14 (
  ob (ghCells gh g5) fun cs7 => ob (cs7[o5]?) fun v8 => isC (degr v6) (
  fnX (degr (degr v6)) fun f11 cs12 => allK cs12 (elK (List.set gh g5 (.cells (spliceAt cs7 o5 [degr1 v8]))) ([(.int .i64 n5)] ++ cs12) fun us10 => allK us10 (callE us10 (callL pg f11 us10 []) fun r9 => unB r9 fun b13 => 
  br 25 b13 (isC (degr v6) (
  fnX (degr (degr v6)) fun f16 cs17 => allK cs17 (elK (List.set gh g5 (.cells (spliceAt cs7 o5 [degr1 v8]))) ([(.int .i64 n6)] ++ cs17) fun us15 => allK us15 (callE us15 (callL pg f16 us15 []) fun r14 => unB r14 fun b18 => 
  apX 1 1 v8 (.sl false 1 [(.bool b18)]) fun l19 => 
  ob (ghCells (List.set gh g5 (.cells (spliceAt cs7 o5 [degr1 v8]))) g5) fun cs20 => gb (stOk 1 o5 [(.sl true 1 l19)] cs20) (stK 0 v6 (stK 0 v14 (stK 0 v6 (stK 0 v14 (stK 0 v6 (stK 0 v14 (some (.normal, ⟨[(5, (.ptr true g5 o5)), (6, v6), (14, v14), (15, (.int .i64 x15)), (16, (.int .i64 (IntKind.i64.wrap (x16 + 1))))], [], (List.set (List.set gh g5 (.cells (spliceAt cs7 o5 [degr1 v8]))) g5 (.cells (spliceAt cs20 o5 [(.sl true 1 l19)])))⟩)))))))))))) (
  apX 1 1 v8 (.sl false 1 [(.bool false)]) fun l21 => 
  ob (ghCells (List.set gh g5 (.cells (spliceAt cs7 o5 [degr1 v8]))) g5) fun cs22 => gb (stOk 1 o5 [(.sl true 1 l21)] cs22) (stK 0 v6 (stK 0 v14 (stK 0 v6 (stK 0 v14 (stK 0 v6 (stK 0 v14 (some (.normal, ⟨[(5, (.ptr true g5 o5)), (6, v6), (14, v14), (15, (.int .i64 x15)), (16, (.int .i64 (IntKind.i64.wrap (x16 + 1))))], [], (List.set (List.set gh g5 (.cells (spliceAt cs7 o5 [degr1 v8]))) g5 (.cells (spliceAt cs22 o5 [(.sl true 1 l21)])))⟩))))))))))))))) (some ((.exit 0), ⟨[(5, (.ptr true g5 o5)), (6, v6), (14, v14), (15, (.int .i64 x15)), (16, (.int .i64 x16)), (17, (.bool (decide (x16 < x15))))], [], gh⟩))

theorem D_gates_All_b1_ok {pg : Prg} {gh : List GObj} {g5 : Nat} {o5 : Nat} {v6 : PV} {v14 : PV} {x15 : Int} {x16 : Int} {e : IExit} {s : St} (h : D_gates_All_b1 pg g5 o5 v6 v14 x15 x16 gh = some (e, s)) : runL pg f_gates_All_b1 ⟨[(5, (.ptr true g5 o5)), (6, v6), (14, v14), (15, (.int .i64 x15)), (16, (.int .i64 x16))], [], gh⟩ = some (e, s) :=
  runX_ok an_gates_All (Eq.trans (by kernel_rfl) h)

noncomputable def D_gates_All_k1 (pg : Prg) (g5 : Nat) (o5 : Nat) (gh : List GObj) : Option (IExit × St) := 
  ob (ghCells gh g5) fun cs1 => 
  ob (grab false 1 o5 cs1) fun v2 => isC (degr v2) (stK 0 (degr v2) (some (.ret, ⟨[(4, (degr v2))], [], gh⟩)))

theorem D_gates_All_k1_ok {pg : Prg} {gh : List GObj} {g5 : Nat} {o5 : Nat} {e : IExit} {s : St} (h : D_gates_All_k1 pg g5 o5 gh = some (e, s)) : runL pg f_gates_All_k1 ⟨[(5, (.ptr true g5 o5))], [], gh⟩ = some (e, s) :=
  runX_ok an_gates_All (Eq.trans (by kernel_rfl) h)

noncomputable def D_gates_All_0 (pg : Prg) (x0_0 : Int) (v0_1 : PV) (v1 : PV) (gh : List GObj) : Option (IExit × St) := onK (degr1 v0_1) (stK 1 v1 (isC (degr v1) (
  apX 1 1 (.sl true 1 [(.bool false)]) (degr (degr v1)) fun l1 => 
  ob (ghCells (gh ++ [.cells [(.sl true 1 [])]]) (List.length gh)) fun cs2 => gb (stOk 1 0 [(.sl true 1 l1)] cs2) (isC (degr (degr1 v0_1)) (lenS (degr (degr (degr1 v0_1))) fun n3 => stK 0 (degr (degr1 v0_1)) (
  kR (runL pg f_gates_All_l1 ⟨[(5, (.ptr true (List.length gh) 0)), (6, (.fn 89 [(.ptr true (List.length gh) 0)])), (14, (degr (degr1 v0_1))), (15, (.int .i64 (n3 : Int))), (16, (.int .i64 0))], [], (List.set (gh ++ [.cells [(.sl true 1 [])]]) (List.length gh) (.cells (spliceAt cs2 0 [(.sl true 1 l1)])))⟩) (fun e s => nx e s (fun e s => some (e, s)) fun s => kR (runL pg f_gates_All_k1 s) (fun e s => some (e, s)))))))))

theorem D_gates_All_0_ok {pg : Prg} {gh : List GObj} {x0_0 : Int} {v0_1 : PV} {v1 : PV} {e : IExit} {s : St} (h : D_gates_All_0 pg x0_0 v0_1 v1 gh = some (e, s)) : runL pg f_gates_All_0 ⟨[(0, (.agg [(.int .i64 x0_0), v0_1])), (1, v1)], [], gh⟩ = some (e, s) :=
  runX_ok an_gates_All (Eq.trans (by kernel_rfl) h)

end Go.Lw
end

/-! What the code of function gates_All_1 comes to, piece by piece. Written by program (dprint.py). -/
section
set_option maxRecDepth 10000
set_option maxHeartbeats 4000000
namespace Go.Lw
open Go

def an_gates_All_1 : Tr := (.node 8 (.ce (.bool)) (.node 4 (.ce (.one)) (.node 3 (.ce (.bool)) (.node 0 (.ce (.int .i64)) .nil .nil) .nil) (.node 6 (.ce (.int .i64)) (.node 5 (.ce (.int .i64)) .nil .nil) .nil)) (.node 11 (.ce (.bool)) (.node 10 (.ce (.int .i64)) (.node 9 (.ce (.int .i64)) .nil .nil) .nil) (.node 12 (.ce (.bool)) .nil .nil)))

noncomputable def D_gates_All_1_0 (pg : Prg) (x0 : Int) (v1 : PV) (gh : List GObj) : Option (IExit × St) := stK 0 v1 (
  ldX [] gh false 1 (degr v1) fun v2 => isC v2 (gd (decide ((2 : Int) ≠ 0)) (
  idX 1 none (degr v2) (IntKind.i64.wrap (Int.tdiv x0 2)) fun p3 => 
  ldX [] gh false 1 (degr p3) fun v4 => unB v4 fun b5 => gd (decide ((2 : Int) ≠ 0)) (some (.ret, ⟨[(3, (.bool (b5 != ((Int.tmod x0 2) == 1))))], [], gh⟩)))))

theorem D_gates_All_1_0_ok {pg : Prg} {gh : List GObj} {x0 : Int} {v1 : PV} {e : IExit} {s : St} (h : D_gates_All_1_0 pg x0 v1 gh = some (e, s)) : runL pg f_gates_All_1_0 ⟨[(0, (.int .i64 x0)), (1, v1)], [], gh⟩ = some (e, s) :=
  runX_ok an_gates_All_1 (Eq.trans (by kernel_rfl) h)

end Go.Lw
end

/-! What the code of function gates_Eval comes to, piece by piece. Written by program (dprint.py). -/
section
set_option maxRecDepth 10000
set_option maxHeartbeats 4000000
namespace Go.Lw
open Go

def an_gates_Eval : Tr := (.node 27 (.ce (.int .i64)) (.node 15 (.ce (.int .i64)) (.node 8 (.ce (.int .i64)) (.node 2 (.ce (.one)) (.node 1 (.ce (.one)) (.node 0 (.agg [.int .i64, .any]) .nil .nil) .nil) (.node 7 (.ce (.int .i64)) (.node 6 (.ce (.one)) .nil .nil) .nil)) (.node 12 (.ce (.int .i64)) (.node 10 (.ce (.one)) (.node 9 (.ce (.one)) .nil .nil) .nil) (.node 14 (.ce (.int .i64)) (.node 13 (.agg [.int .i64, .any]) .nil .nil) .nil))) (.node 21 (.ce (.bool)) (.node 18 (.ce (.bool)) (.node 17 (.ce (.int .i64)) (.node 16 (.ce (.bool)) .nil .nil) .nil) (.node 20 (.ce (.one)) (.node 19 (.agg [.int .i64, .any]) .nil .nil) .nil)) (.node 24 (.ce (.one)) (.node 23 (.ce (.bool)) (.node 22 (.ce (.bool)) .nil .nil) .nil) (.node 25 (.ce (.int .i64)) .nil .nil)))) (.node 40 (.ce (.int .i64)) (.node 33 (.ce (.int .i64)) (.node 30 (.ce (.one)) (.node 29 (.agg [.int .i64, .any]) (.node 28 (.ce (.bool)) .nil .nil) .nil) (.node 32 (.ce (.one)) (.node 31 (.ce (.one)) .nil .nil) .nil)) (.node 37 (.ce (.int .i64)) (.node 35 (.ce (.bool)) (.node 34 (.ce (.int .i64)) .nil .nil) .nil) (.node 39 (.ce (.one)) (.node 38 (.ce (.one)) .nil .nil) .nil))) (.node 47 (.ce (.bool)) (.node 44 (.ce (.int .i64)) (.node 43 (.ce (.bool)) (.node 41 (.ce (.int .i64)) .nil .nil) .nil) (.node 46 (.ce (.bool)) (.node 45 (.ce (.int .i64)) .nil .nil) .nil)) (.node 50 (.ce (.int .i64)) (.node 49 (.ce (.one)) (.node 48 (.ce (.one)) .nil .nil) .nil) (.node 51 (.ce (.one)) .nil .nil)))))

noncomputable def D_gates_Eval_b1 (pg : Prg) (v9 : PV) (v10 : PV) (v32 : PV) (x33 : Int) (x34 : Int) (gh : List GObj) : Option (IExit × St) := 
  br 35 (decide (x34 < x33)) (
  idX 1 none (degr v32) x34 fun p1 => 
  ldX [] gh false 1 (degr p1) fun v2 => unI .i64 v2 fun n3 => stK 0 v9 (stK 0 v10 (stK 0 v32 (isC (degr v9) (gd (decide ((2 : Int) ≠ 0)) (
  idX 1 none (degr (degr v9)) (IntKind.i64.wrap (Int.tdiv n3 2)) fun p4 => 
  ldX [] gh false 1 (degr p4) fun v5 => unB v5 fun b6 => gd (decide ((2 : Int) ≠ 0)) (
  apX 1 1 v10 (.sl false 1 [(.bool (b6 != ((Int.tmod n3 2) == 1)))]) fun l7 => stK 0 v9 (stK 0 v32 (stK 0 v9 (stK 0 v32 (stK 0 v9 (stK 0 v32 (some (.normal, ⟨[(9, v9), (10, (.sl true 1 l7)), (32, v32), (33, (.int .i64 x33)), (34, (.int .i64 (IntKind.i64.wrap (x34 + 1))))], [], gh⟩)))))))))))))) (some ((.exit 1), ⟨[(9, v9), (10, v10), (32, v32), (33, (.int .i64 x33)), (34, (.int .i64 x34)), (35, (.bool (decide (x34 < x33))))], [], gh⟩))

theorem D_gates_Eval_b1_ok {pg : Prg} {gh : List GObj} {v9 : PV} {v10 : PV} {v32 : PV} {x33 : Int} {x34 : Int} {e : IExit} {s : St} (h : D_gates_Eval_b1 pg v9 v10 v32 x33 x34 gh = some (e, s)) : runL pg f_gates_Eval_b1 ⟨[(9, v9), (10, v10), (32, v32), (33, (.int .i64 x33)), (34, (.int .i64 x34))], [], gh⟩ = some (e, s) :=
  runX_ok an_gates_Eval (Eq.trans (by kernel_rfl) h)

noncomputable def D_gates_Eval_k1 (pg : Prg) (v10 : PV) (gh : List GObj) : Option (IExit × St) := isC (degr v10) (stK 0 (degr v10) (some (.ret, ⟨[(6, (degr v10)), (7, (.int .i64 0))], [], gh⟩)))

theorem D_gates_Eval_k1_ok {pg : Prg} {gh : List GObj} {v10 : PV} {e : IExit} {s : St} (h : D_gates_Eval_k1 pg v10 gh = some (e, s)) : runL pg f_gates_Eval_k1 ⟨[(10, v10)], [], gh⟩ = some (e, s) :=
  runX_ok an_gates_Eval (Eq.trans (by kernel_rfl) h)

noncomputable def D_gates_Eval_0 (pg : Prg) (x0_0 : Int) (v0_1 : PV) (v1 : PV) (v2 : PV) (gh : List GObj) : Option (IExit × St) := onK (degr1 v0_1) (stK 1 v1 (stK 1 v2 (onK (degr1 (degr1 (degr1 v0_1))) (
  callR gh true (callL pg 6 [(.agg [(.int .i64 x0_0), (degr1 (degr1 (degr1 v0_1)))])] gh) fun r1 gh2 => unI .i64 r1 fun n3 => stK 1 v1 (stK 1 v2 (stK 1 v1 (stK 1 v2 (
  br 16 (n3 != 0) (some (.ret, ⟨[(6, (.sl true 1 [])), (7, (.int .i64 n3))], [], gh2⟩)) (isC (degr v2) (onK (degr1 (degr1 (degr1 v0_1))) (arK (degr (degr v2)) (
  callR gh2 true (callL pg 47 [(.agg [(.int .i64 x0_0), (degr1 (degr1 (degr1 v0_1)))]), (degr (degr v2))] gh2) fun r4 gh5 => unB r4 fun b6 => stK 1 v1 (stK 1 v2 (
  br 18 (!b6) (some (.ret, ⟨[(6, (.sl true 1 [])), (7, (.int .i64 5))], [], gh5⟩)) (isC (degr v1) (lenS (degr (degr v1)) fun n7 => stK 1 v1 (stK 1 v2 (
  br 23 ((n7 : Int) != x0_0) (some (.ret, ⟨[(6, (.sl true 1 [])), (7, (.int .i64 1))], [], gh5⟩)) (isC (degr v1) (onK (degr1 (degr1 (degr1 v0_1))) (arK (degr (degr v1)) (
  callR gh5 true (callL pg 52 [(.agg [(.int .i64 x0_0), (degr1 (degr1 (degr1 v0_1)))]), (degr (degr v1))] gh5) fun r8 gh9 => isC r8 (stK 0 v2 (stK 0 r8 (isC (degr v2) (lenS (degr (degr v2)) fun n10 => stK 0 r8 (stK 0 (degr v2) (
  kR (runL pg f_gates_Eval_l1 ⟨[(9, r8), (10, (.sl true 1 [])), (32, (degr v2)), (33, (.int .i64 (n10 : Int))), (34, (.int .i64 0))], [], gh9⟩) (fun e s => nx e s (fun e s => some (e, s)) fun s => kR (runL pg f_gates_Eval_k1 s) (fun e s => some (e, s)))))))))))))))))))))))))))))))

theorem D_gates_Eval_0_ok {pg : Prg} {gh : List GObj} {x0_0 : Int} {v0_1 : PV} {v1 : PV} {v2 : PV} {e : IExit} {s : St} (h : D_gates_Eval_0 pg x0_0 v0_1 v1 v2 gh = some (e, s)) : runL pg f_gates_Eval_0 ⟨[(0, (.agg [(.int .i64 x0_0), v0_1])), (1, v1), (2, v2)], [], gh⟩ = some (e, s) :=
  runX_ok an_gates_Eval (Eq.trans (by kernel_rfl) h)

end Go.Lw
end

/-! What the nodes of a graph are: what the program makes. -/
section
namespace Go.Lw
open Go

abbrev LB (v : List Bool) : PV := .sl false 1 (v.map B)

/-- What a literal is. -/
def litV (v : List Bool) (n : Int) : Bool := (v.getD (n / 2).toNat false) != decide (n % 2 = 1)

/-- What all nodes are. -/
def allFrom : List Bool → List (Int × Int) → List Bool
  | v, [] => v
  | v, x :: l => allFrom (v ++ [litV v x.1 && litV v x.2]) l

theorem allFrom_len : ∀ (v : List Bool) (l : List (Int × Int)), (allFrom v l).length = v.length + l.length
  | v, [] => rfl
  | v, x :: l => by rw [allFrom, allFrom_len]; simp; omega

theorem lit_idx {v : List Bool} {n : Int} (h : (n / 2).toNat < v.length) : (v.map B)[(n / 2).toNat]? = some (B (v.getD (n / 2).toNat false)) := by
  rw [List.getElem?_map, List.getElem?_eq_getElem h]
  simp [List.getD, List.getElem?_eq_getElem h]

theorem noGs_bools (v : List Bool) : noGs (v.map B) = true := by
  induction v with
  | nil => rfl
  | cons x l ih => simp [ih]

@[simp] theorem noG_ep (e : PV) (o : Nat) : PV.noG (.ep e o) = e.noG := rfl

section
variable {gh : List GObj}

theorem All1_eq {v : List Bool} {n : Int} (h0 : 0 ≤ n) (hm : n ≤ 9223372036854775807) (h : (n / 2).toNat < v.length) : callL pg 89 [I n, .ep (.agg [LB v]) 0] gh = some (B (litV v n), gh) := by
  have e1 : IntKind.i64.wrap (Int.tdiv n 2) = n / 2 := by rw [tdiv2 h0, wrap_id (by omega) (by omega)]
  have e2 : Int.tmod n 2 = n % 2 := Int.tmod_eq_emod_of_nonneg h0
  have h2 : 0 ≤ n / 2 := by omega
  refine callL_fn (fn := f_gates_All_1) (s := ?s1) rfl rfl (D_gates_All_1_0_ok ?h1) ?r1
  case h1 => simp [D_gates_All_1_0, e1, e2, h2, lit_idx h, -List.getElem?_map]; rfl
  case r1 => simp [finish, results, f_gates_All_1, resOfs, resOf, resOk, litV]

def allG (gh : List GObj) (v : List Bool) : List GObj := gh ++ [.cells [.sl true 1 (v.map B)]]

def allSt (gh : List GObj) (ands : List (Int × Int)) (v : List Bool) (i : Nat) : St :=
  ⟨[(5, .ptr true gh.length 0), (6, .fn 89 [.ptr true gh.length 0]), (14, .sl false 2 (ands.map andV)), (15, I ands.length), (16, I (i : Int))], [], allG gh v⟩

/-- The literals of an And stand among the nodes. -/
def litsIn (x : Int × Int) (n : Nat) : Prop := (0 ≤ x.1 ∧ x.1 ≤ 9223372036854775807 ∧ (x.1 / 2).toNat < n) ∧ (0 ≤ x.2 ∧ x.2 ≤ 9223372036854775807 ∧ (x.2 / 2).toNat < n)

theorem All_b1 {ands : List (Int × Int)} {v : List Bool} {i : Nat} (hlt : i < ands.length) (hx : litsIn ands[i] v.length) (hl : ands.length ≤ 1000000) (hv : v.length ≤ 3000000) :
    D_gates_All_b1 pg gh.length 0 (.fn 89 [.ptr true gh.length 0]) (.sl false 2 (ands.map andV)) ands.length i (allG gh v) = some (.normal, allSt gh ands (v ++ [litV v ands[i].1 && litV v ands[i].2]) (i + 1)) := by
  have e2 : IntKind.i64.wrap ((i : Int) + 1) = ((i + 1 : Nat) : Int) := by rw [wrap_id (by omega) (by omega)]; omega
  have hg : (ands.map andV)[i]? = some (.agg [I ands[i].1, I ands[i].2]) := by simp [List.getElem?_eq_getElem hlt, andV]
  generalize hy : ands[i] = x at *
  obtain ⟨a, b⟩ := x
  obtain ⟨⟨a0, a1, a2⟩, b0, b1, b2⟩ := hx
  simp only at hg a0 a1 a2 b0 b1 b2
  have ha := All1_eq (gh := []) a0 a1 a2
  have hb := All1_eq (gh := []) b0 b1 b2
  have hltI : (i : Int) < (ands.length : Int) := by omega
  have hmx : v.length + 1 ≤ maxBytes := by
    have : maxBytes = 140737488355328 := rfl
    omega
  cases hla : litV v a with
  | true =>
    rw [hla] at ha
    simp [D_gates_All_b1, hltI, hg, allG, allSt, e2, spliceAt, elPs, elP, ha, hb, hmx, hla, noGs_bools, -List.getElem?_map]
  | false =>
    rw [hla] at ha
    simp [D_gates_All_b1, hltI, hg, allG, allSt, e2, spliceAt, elPs, elP, ha, hmx, hla, noGs_bools, -List.getElem?_map]

theorem All_loop {ands : List (Int × Int)} (hl : ands.length ≤ 1000000) : ∀ k i v, i + k = ands.length → v.length ≤ 1001001 + i → (∀ j (h : j < ands.length), i ≤ j → litsIn ands[j] (v.length + (j - i))) →
    runL pg f_gates_All_l1 (allSt gh ands v i) = some (.normal, ⟨[(5, .ptr true gh.length 0)], [], allG gh (allFrom v (ands.drop i))⟩)
  | 0, i, v, h, _, _ => by
    rw [List.drop_eq_nil_of_le (by omega)]
    have hlt : ¬ (i : Int) < (ands.length : Int) := by omega
    refine (lp_exit (s1 := ?s1) (D_gates_All_b1_ok ?h1)).trans ?r1
    case h1 => simp only [D_gates_All_b1, decide_eq_false hlt, br_false]; rfl
    case r1 => rfl
  | k + 1, i, v, h, hv, hin => by
    have hlt : i < ands.length := by omega
    have hx := hin i hlt (Nat.le_refl _)
    rw [Nat.sub_self, Nat.add_zero] at hx
    refine lp_next (D_gates_All_b1_ok (All_b1 hlt hx hl (by omega))) ?_
    rw [List.drop_eq_getElem_cons hlt, allFrom]
    refine All_loop hl k (i + 1) _ (by omega) (by simp; omega) (fun j hj hij => ?_)
    have := hin j hj (by omega)
    rw [show (v ++ [litV v ands[i].1 && litV v ands[i].2]).length + (j - (i + 1)) = v.length + (j - i) by simp; omega]
    exact this

theorem okA_get {ins : Int} : ∀ {i : Nat} {l : List (Int × Int)} {j : Nat} (_ : okA ins i l = true) (hj : j < l.length), ¬ badA ins (i + j) l[j]
  | i, x :: l, 0, h, _ => by
    rw [okA] at h
    split at h
    · cases h
    · simpa
  | i, x :: l, j + 1, h, hj => by
    rw [okA] at h
    split at h
    · cases h
    · have := okA_get (j := j) h (by simpa using hj)
      rw [show i + 1 + j = i + (j + 1) by omega] at this
      simpa using this

theorem ok_litsIn {ins : Int} (hi : 0 ≤ ins ∧ ins ≤ 1000) {x : Int × Int} {j n : Nat} (h : ¬ badA ins j x) (hj : j ≤ 1000000) (hn : (n : Int) = 1 + ins + j) : litsIn x n := by
  unfold badA at h
  simp only [not_or] at h
  unfold litsIn
  omega

theorem All_eq {ins : Int} {ands : List (Int × Int)} {v : List Bool} (hi : 0 ≤ ins ∧ ins ≤ 1000) (hl : ands.length ≤ 1000000) (hok : okA ins 0 ands = true) (hv : (v.length : Int) = ins) :
    callL pg 52 [graphV ins ands, LB v] gh = some (LB (allFrom (false :: v) ands), gh) := by
  have hlp := All_loop (gh := gh) hl ands.length 0 (false :: v) (by omega) (by simp; omega) (fun j hj _ => by
    have h := okA_get hok hj
    refine ok_litsIn hi (by simpa using h) (by omega) ?_
    simp; omega)
  rw [List.drop_zero] at hlp
  unfold allSt allG at hlp
  simp only [Int.natCast_zero] at hlp
  have hk := D_gates_All_k1_ok (pg := pg) (gh := allG gh (allFrom (false :: v) ands)) (g5 := gh.length) (o5 := 0) (e := .ret) (s := ⟨[(4, LB (allFrom (false :: v) ands))], [], allG gh (allFrom (false :: v) ands)⟩) (by simp [D_gates_All_k1, allG])
  unfold allG at hk
  have hmx : 1 + v.length ≤ maxBytes := by
    have : maxBytes = 140737488355328 := rfl
    omega
  have hmx2 : v.length + 1 ≤ maxBytes := by omega
  refine callL_fn (fn := f_gates_All) (s := ⟨[(4, LB (allFrom (false :: v) ands))], [], allG gh (allFrom (false :: v) ands)⟩) rfl rfl (D_gates_All_0_ok ?h1) ?r1
  case h1 =>
    simp only [List.map_cons] at hlp
    simp [D_gates_All_0, graphV, hmx, hmx2, spliceAt, hlp, hk, allG]
  case r1 =>
    simp [finish, results, f_gates_All, resOfs, resOf, resOk, allG, noGs_bools]

def evSt (v : List Bool) (lits : List Int) (out : List Bool) (i : Nat) (gh : List GObj) : St :=
  ⟨[(9, LB v), (10, .sl true 1 (out.map B)), (32, LI lits), (33, I lits.length), (34, I (i : Int))], [], gh⟩

theorem Eval_loop {v : List Bool} {lits : List Int} (hs : Sz lits.length) (hin : ∀ n ∈ lits, 0 ≤ n ∧ n ≤ 9223372036854775807 ∧ (n / 2).toNat < v.length) : ∀ k i, i + k = lits.length →
    runL pg f_gates_Eval_l1 (evSt v lits ((lits.take i).map (litV v)) i gh) = some (.normal, ⟨[(10, .sl true 1 ((lits.map (litV v)).map B))], [], gh⟩)
  | 0, i, h => by
    rw [List.take_of_length_le (by omega)]
    have hlt : ¬ (i : Int) < (lits.length : Int) := by omega
    refine (lp_exit (s1 := ?s1) (D_gates_Eval_b1_ok ?h1)).trans ?r1
    case h1 => simp only [D_gates_Eval_b1, decide_eq_false hlt, br_false]; rfl
    case r1 => rfl
  | k + 1, i, h => by
    have hlt : i < lits.length := by omega
    obtain ⟨h0, h1, h2⟩ := hin lits[i] (List.getElem_mem hlt)
    have e1 : IntKind.i64.wrap (Int.tdiv lits[i] 2) = lits[i] / 2 := by rw [tdiv2 h0, wrap_id (by omega) (by omega)]
    have e2 : Int.tmod lits[i] 2 = lits[i] % 2 := Int.tmod_eq_emod_of_nonneg h0
    have h3 : 0 ≤ lits[i] / 2 := by omega
    have e3 : IntKind.i64.wrap ((i : Int) + 1) = ((i + 1 : Nat) : Int) := wrap_nat (by simp only [Sz] at hs ⊢; omega)
    have hg : (lits.map I)[i]? = some (I lits[i]) := by simp [List.getElem?_eq_getElem hlt]
    have hltI : (i : Int) < (lits.length : Int) := by omega
    have hmx : i + 1 ≤ maxBytes := by
      have : maxBytes = 140737488355328 := rfl
      simp only [Sz] at hs; omega
    refine lp_next (s1 := evSt v lits ((lits.take (i + 1)).map (litV v)) (i + 1) gh) (D_gates_Eval_b1_ok ?h4) (Eval_loop hs hin k (i + 1) (by omega))
    case h4 =>
      have htk : (lits.take (i + 1)).map (litV v) = (lits.take i).map (litV v) ++ [litV v lits[i]] := by
        rw [List.take_add_one, List.getElem?_eq_getElem hlt, List.map_append]; rfl
      have hln : ((lits.take i).map (litV v)).length = i := by simp; omega
      rw [htk]
      generalize (lits.take i).map (litV v) = out at hln
      generalize hy : lits[i] = n at *
      simp [D_gates_Eval_b1, hltI, hg, e1, e2, e3, h3, lit_idx h2, hln, hmx, evSt, litV, -List.getElem?_map]

/-- What Eval answers. -/
def evE (ins : Int) (ands : List (Int × Int)) (v : List Bool) (lits : List Int) : List Bool × Int :=
  if chkE ins ands ≠ 0 then ([], chkE ins ands) else if ¬ lits.all (isLit ins ands) = true then ([], 5) else if (v.length : Int) ≠ ins then ([], 1)
  else (lits.map (litV (allFrom (false :: v) ands)), 0)

theorem Eval_eq {ins : Int} {ands : List (Int × Int)} {v : List Bool} {lits : List Int} (hr : RA ands) (hs : Sz lits.length) :
    callL pg 9 [graphV ins ands, LB v, LI lits] gh = some (.tup [LB (evE ins ands v lits).1, I (evE ins ands v lits).2], gh) := by
  have hC := Check_eq (ins := ins) (gh := gh) hr
  unfold graphV at hC
  by_cases hc : chkE ins ands = 0
  · obtain ⟨hi, hl, hok, hnd⟩ := chkE_zero hc
    have hI := Is_eq (ands := ands) (gh := gh) hi hl hs
    unfold graphV at hI
    cases hab : lits.all (isLit ins ands) with
    | false =>
      have e : evE ins ands v lits = ([], 5) := by
        unfold evE
        rw [if_neg (fun h => h hc), if_pos (by rw [hab]; simp)]
      rw [e]
      rw [hab] at hI
      refine callL_fn (fn := f_gates_Eval) (s := ?s1) rfl rfl (D_gates_Eval_0_ok ?h1) ?r1
      case h1 => simp [D_gates_Eval_0, graphV, hC, hc, hI]; rfl
      case r1 => simp [finish, results, f_gates_Eval, resOfs, resOf, resOk]
    | true =>
      rw [hab] at hI
      by_cases hv : (v.length : Int) = ins
      · have e : evE ins ands v lits = (lits.map (litV (allFrom (false :: v) ands)), 0) := by
          unfold evE
          rw [if_neg (fun h => h hc), if_neg (by rw [hab]; simp), if_neg (fun h => h hv)]
        rw [e]
        have hA := All_eq (gh := gh) hi hl hok hv
        unfold graphV at hA
        have hlen := allFrom_len (false :: v) ands
        have hlp := Eval_loop (gh := gh) (v := allFrom (false :: v) ands) hs (fun n hn => by
          have := List.all_eq_true.1 hab n hn
          unfold isLit nodesOf at this
          rw [decide_eq_true_eq] at this
          simp at hlen
          omega) lits.length 0 (by omega)
        unfold evSt at hlp
        simp only [List.take_zero, List.map_nil, Int.natCast_zero] at hlp
        have hk := D_gates_Eval_k1_ok (pg := pg) (gh := gh) (v10 := .sl true 1 ((lits.map (litV (allFrom (false :: v) ands))).map B)) (e := .ret) (s := ⟨[(6, LB (lits.map (litV (allFrom (false :: v) ands)))), (7, I 0)], [], gh⟩) (by simp [D_gates_Eval_k1])
        generalize allFrom (false :: v) ands = al at *
        refine callL_fn (fn := f_gates_Eval) (s := ⟨[(6, LB (lits.map (litV al))), (7, I 0)], [], gh⟩) rfl rfl (D_gates_Eval_0_ok ?h2) ?r2
        case h2 =>
          have hv' : (v.map B).length = v.length := by simp
          have hv2 : (lits.map I).length = lits.length := by simp
          generalize v.map B = vb at *
          generalize lits.map I = lb at *
          generalize al.map B = ab at *
          generalize (lits.map (litV al)).map B = ob' at *
          simp [D_gates_Eval_0, graphV, hC, hc, hI, hv, hv', hv2, hA, hlp, hk]
        case r2 => simp [finish, results, f_gates_Eval, resOfs, resOf, resOk, noGs_bools, -List.map_map]
      · have e : evE ins ands v lits = ([], 1) := by
          unfold evE
          rw [if_neg (fun h => h hc), if_neg (by rw [hab]; simp), if_pos hv]
        rw [e]
        refine callL_fn (fn := f_gates_Eval) (s := ?s3) rfl rfl (D_gates_Eval_0_ok ?h3) ?r3
        case h3 => simp [D_gates_Eval_0, graphV, hC, hc, hI, hv]; rfl
        case r3 => simp [finish, results, f_gates_Eval, resOfs, resOf, resOk]
  · have e : evE ins ands v lits = ([], chkE ins ands) := by unfold evE; rw [if_pos hc]
    rw [e]
    refine callL_fn (fn := f_gates_Eval) (s := ?s4) rfl rfl (D_gates_Eval_0_ok ?h4) ?r4
    case h4 => simp [D_gates_Eval_0, graphV, hC, hc]; rfl
    case r4 => simp [finish, results, f_gates_Eval, resOfs, resOf, resOk]

end
end Go.Lw
end

/-! What the code of function cnf_abs comes to, piece by piece. Written by program (dprint.py). -/
section
set_option maxRecDepth 10000
set_option maxHeartbeats 4000000
namespace Go.Lw
open Go

def an_cnf_abs : Tr := (.node 4 (.ce (.int .i64)) (.node 2 (.ce (.int .i64)) (.node 0 (.ce (.int .i64)) .nil .nil) (.node 3 (.ce (.int .i64)) .nil .nil)) (.node 6 (.ce (.int .i64)) (.node 5 (.ce (.int .i64)) .nil .nil) .nil))

noncomputable def D_cnf_abs_0 (pg : Prg) (x0 : Int) (gh : List GObj) : Option (IExit × St) := some (.ret, ⟨[(2, (.int .i64 (if (IntKind.i64.wrap (0 - x0)) > x0 then (IntKind.i64.wrap (0 - x0)) else x0)))], [], gh⟩)

theorem D_cnf_abs_0_ok {pg : Prg} {gh : List GObj} {x0 : Int} {e : IExit} {s : St} (h : D_cnf_abs_0 pg x0 gh = some (e, s)) : runL pg f_cnf_abs_0 ⟨[(0, (.int .i64 x0))], [], gh⟩ = some (e, s) :=
  runX_ok an_cnf_abs (Eq.trans (by kernel_rfl) h)

end Go.Lw
end

/-! What the code of function cnf_Hold comes to, piece by piece. Written by program (dprint.py). -/
section
set_option maxRecDepth 10000
set_option maxHeartbeats 4000000
namespace Go.Lw
open Go

def an_cnf_Hold : Tr := (.node 6 (.ce (.one)) (.node 3 (.ce (.gp)) (.node 1 (.ce (.one)) (.node 0 (.agg [.int .i64, .any]) .nil .nil) .nil) (.node 5 (.ce (.gp)) (.node 4 (.ce (.bool)) .nil .nil) .nil)) (.node 10 (.ce (.bool)) (.node 9 (.ce (.one)) (.node 8 (.ce (.one)) .nil .nil) .nil) (.node 11 (.ce (.bool)) .nil .nil)))

noncomputable def D_cnf_Hold_0 (pg : Prg) (x0_0 : Int) (v0_1 : PV) (v1 : PV) (gh : List GObj) : Option (IExit × St) := onK (degr1 v0_1) (arK (degr v1) (isC (degr v1) (
  ob (ghCells ((gh ++ [.cells [(degr v1)]]) ++ [.cells [.nilf]]) (List.length (gh ++ [.cells [(degr v1)]]))) fun cs1 => gb (stOk 1 0 [(.fn 98 [(.ptr true (List.length gh) 0)])] cs1) (isC (degr (degr1 v0_1)) (arK (degr (degr (degr1 v0_1))) (
  callR (List.set ((gh ++ [.cells [(degr v1)]]) ++ [.cells [.nilf]]) (List.length (gh ++ [.cells [(degr v1)]])) (.cells (spliceAt cs1 0 [(.fn 98 [(.ptr true (List.length gh) 0)])]))) true (callL pg 100 [(degr (degr (degr1 v0_1))), (.fn 99 [(.ptr true (List.length (gh ++ [.cells [(degr v1)]])) 0)])] (List.set ((gh ++ [.cells [(degr v1)]]) ++ [.cells [.nilf]]) (List.length (gh ++ [.cells [(degr v1)]])) (.cells (spliceAt cs1 0 [(.fn 98 [(.ptr true (List.length gh) 0)])])))) fun r2 gh3 => unB r2 fun b4 => some (.ret, ⟨[(4, (.bool (!b4)))], [], gh3⟩)))))))

theorem D_cnf_Hold_0_ok {pg : Prg} {gh : List GObj} {x0_0 : Int} {v0_1 : PV} {v1 : PV} {e : IExit} {s : St} (h : D_cnf_Hold_0 pg x0_0 v0_1 v1 gh = some (e, s)) : runL pg f_cnf_Hold_0 ⟨[(0, (.agg [(.int .i64 x0_0), v0_1])), (1, v1)], [], gh⟩ = some (e, s) :=
  runX_ok an_cnf_Hold (Eq.trans (by kernel_rfl) h)

end Go.Lw
end

/-! What the code of function cnf_Hold_1 comes to, piece by piece. Written by program (dprint.py). -/
section
set_option maxRecDepth 10000
set_option maxHeartbeats 4000000
namespace Go.Lw
open Go

def an_cnf_Hold_1 : Tr := (.node 6 (.ce (.int .i64)) (.node 3 (.ce (.bool)) (.node 1 (.ce (.gp)) (.node 0 (.ce (.int .i64)) .nil .nil) .nil) (.node 5 (.ce (.int .i64)) (.node 4 (.ce (.one)) .nil .nil) .nil)) (.node 10 (.ce (.int .i64)) (.node 9 (.ce (.bool)) (.node 7 (.ce (.int .i64)) .nil .nil) .nil) (.node 12 (.ce (.bool)) (.node 11 (.ce (.bool)) .nil .nil) .nil)))

noncomputable def D_cnf_Hold_1_0 (pg : Prg) (x0 : Int) (g1 : Nat) (o1 : Nat) (gh : List GObj) : Option (IExit × St) := 
  ob (ghCells gh g1) fun cs1 => 
  ob (grab false 1 o1 cs1) fun v2 => isC (degr v2) (
  callR gh true (callL pg 116 [(.int .i64 x0)] gh) fun r3 gh4 => unI .i64 r3 fun n5 => 
  idX 1 none (degr (degr v2)) (IntKind.i64.wrap (n5 - 1)) fun p6 => 
  ldX [] gh4 false 1 (degr p6) fun v7 => unB v7 fun b8 => some (.ret, ⟨[(3, (.bool (b8 == (decide (0 < x0)))))], [], gh4⟩))

theorem D_cnf_Hold_1_0_ok {pg : Prg} {gh : List GObj} {x0 : Int} {g1 : Nat} {o1 : Nat} {e : IExit} {s : St} (h : D_cnf_Hold_1_0 pg x0 g1 o1 gh = some (e, s)) : runL pg f_cnf_Hold_1_0 ⟨[(0, (.int .i64 x0)), (1, (.ptr true g1 o1))], [], gh⟩ = some (e, s) :=
  runX_ok an_cnf_Hold_1 (Eq.trans (by kernel_rfl) h)

end Go.Lw
end

/-! What the code of function cnf_Hold_2 comes to, piece by piece. Written by program (dprint.py). -/
section
set_option maxRecDepth 10000
set_option maxHeartbeats 4000000
namespace Go.Lw
open Go

def an_cnf_Hold_2 : Tr := (.node 4 (.ce (.one)) (.node 1 (.ce (.gp)) (.node 0 (.ce (.one)) .nil .nil) (.node 3 (.ce (.bool)) .nil .nil)) (.node 6 (.ce (.bool)) (.node 5 (.ce (.one)) .nil .nil) (.node 7 (.ce (.bool)) .nil .nil)))

noncomputable def D_cnf_Hold_2_0 (pg : Prg) (v0 : PV) (g1 : Nat) (o1 : Nat) (gh : List GObj) : Option (IExit × St) := stK 0 v0 (isC (degr v0) (
  ob (ghCells gh g1) fun cs1 => 
  ob (grab false 1 o1 cs1) fun v2 => isC (degr v2) (arK (degr (degr v0)) (arK (degr (degr v2)) (
  callR gh true (callL pg 86 [(degr (degr v0)), (degr (degr v2))] gh) fun r3 gh4 => unB r3 fun b5 => some (.ret, ⟨[(3, (.bool (!b5)))], [], gh4⟩))))))

theorem D_cnf_Hold_2_0_ok {pg : Prg} {gh : List GObj} {v0 : PV} {g1 : Nat} {o1 : Nat} {e : IExit} {s : St} (h : D_cnf_Hold_2_0 pg v0 g1 o1 gh = some (e, s)) : runL pg f_cnf_Hold_2_0 ⟨[(0, v0), (1, (.ptr true g1 o1))], [], gh⟩ = some (e, s) :=
  runX_ok an_cnf_Hold_2 (Eq.trans (by kernel_rfl) h)

end Go.Lw
end

/-! What the code of function cnf_Holds comes to, piece by piece. Written by program (dprint.py). -/
section
set_option maxRecDepth 10000
set_option maxHeartbeats 4000000
namespace Go.Lw
open Go

def an_cnf_Holds : Tr := (.node 10 (.ce (.bool)) (.node 6 (.ce (.int .i64)) (.node 4 (.ce (.bool)) (.node 1 (.ce (.one)) (.node 0 (.agg [.int .i64, .any]) .nil .nil) .nil) (.node 5 (.ce (.int .i64)) .nil .nil)) (.node 8 (.ce (.int .i64)) (.node 7 (.agg [.int .i64, .any]) .nil .nil) (.node 9 (.ce (.int .i64)) .nil .nil))) (.node 16 (.ce (.bool)) (.node 13 (.ce (.int .i64)) (.node 12 (.ce (.one)) (.node 11 (.ce (.int .i64)) .nil .nil) .nil) (.node 15 (.ce (.int .i64)) .nil .nil)) (.node 18 (.ce (.one)) (.node 17 (.agg [.int .i64, .any]) .nil .nil) (.node 19 (.ce (.bool)) .nil .nil))))

noncomputable def D_cnf_Holds_0 (pg : Prg) (x0_0 : Int) (v0_1 : PV) (v1 : PV) (gh : List GObj) : Option (IExit × St) := onK (degr1 v0_1) (stK 1 v1 (onK (degr1 (degr1 (degr1 v0_1))) (
  callR gh true (callL pg 59 [(.agg [(.int .i64 x0_0), (degr1 (degr1 (degr1 v0_1)))])] gh) fun r1 gh2 => unI .i64 r1 fun n3 => stK 1 v1 (stK 1 v1 (
  br 10 (n3 != 0) (some (.ret, ⟨[(4, (.bool false)), (5, (.int .i64 n3))], [], gh2⟩)) (isC (degr v1) (lenS (degr (degr v1)) fun n4 => stK 1 v1 (
  br 16 ((n4 : Int) != x0_0) (some (.ret, ⟨[(4, (.bool false)), (5, (.int .i64 1))], [], gh2⟩)) (isC (degr v1) (onK (degr1 (degr1 (degr1 v0_1))) (arK (degr (degr v1)) (
  callR gh2 true (callL pg 70 [(.agg [(.int .i64 x0_0), (degr1 (degr1 (degr1 v0_1)))]), (degr (degr v1))] gh2) fun r5 gh6 => unB r5 fun b7 => some (.ret, ⟨[(4, (.bool b7)), (5, (.int .i64 0))], [], gh6⟩)))))))))))))

theorem D_cnf_Holds_0_ok {pg : Prg} {gh : List GObj} {x0_0 : Int} {v0_1 : PV} {v1 : PV} {e : IExit} {s : St} (h : D_cnf_Holds_0 pg x0_0 v0_1 v1 gh = some (e, s)) : runL pg f_cnf_Holds_0 ⟨[(0, (.agg [(.int .i64 x0_0), v0_1])), (1, v1)], [], gh⟩ = some (e, s) :=
  runX_ok an_cnf_Holds (Eq.trans (by kernel_rfl) h)

end Go.Lw
end

/-! What the code of function law_cnfBegun comes to, piece by piece. Written by program (dprint.py). -/
section
set_option maxRecDepth 10000
set_option maxHeartbeats 4000000
namespace Go.Lw
open Go

def an_law_cnfBegun : Tr := (.node 21 (.ce (.bool)) (.node 11 (.agg [.int .i64, .any]) (.node 6 (.agg [.int .i64, .int .i64]) (.node 3 (.ce (.bool)) (.node 2 (.ce (.int .i64)) (.node 0 (.ce (.bool)) .nil .nil) .nil) (.node 5 (.tup 2) (.node 4 (.ce (.int .i64)) .nil .nil) .nil)) (.node 9 (.ce (.one)) (.node 8 (.agg [.int .i64, .any]) (.node 7 (.ce (.one)) .nil .nil) .nil) (.node 10 (.tup 2) .nil .nil))) (.node 16 (.tup 2) (.node 14 (.agg [.int .i64, .any]) (.node 13 (.tup 2) (.node 12 (.ce (.int .i64)) .nil .nil) .nil) (.node 15 (.ce (.one)) .nil .nil)) (.node 19 (.ce (.int .i64)) (.node 18 (.ce (.int .i64)) (.node 17 (.ce (.bool)) .nil .nil) .nil) (.node 20 (.ce (.bool)) .nil .nil)))) (.node 33 (.ce (.bool)) (.node 27 (.ce (.bool)) (.node 24 (.ce (.bool)) (.node 23 (.ce (.bool)) (.node 22 (.ce (.int .i64)) .nil .nil) .nil) (.node 26 (.ce (.bool)) (.node 25 (.ce (.bool)) .nil .nil) .nil)) (.node 31 (.ce (.bool)) (.node 30 (.ce (.int .i64)) (.node 28 (.ce (.bool)) .nil .nil) .nil) (.node 32 (.ce (.bool)) .nil .nil))) (.node 39 (.ce (.bool)) (.node 37 (.ce (.bool)) (.node 36 (.ce (.int .i64)) (.node 35 (.ce (.one)) .nil .nil) .nil) (.node 38 (.ce (.bool)) .nil .nil)) (.node 42 (.ce (.bool)) (.node 41 (.ce (.int .i64)) (.node 40 (.agg [.int .i64, .any]) .nil .nil) .nil) (.node 43 (.ce (.bool)) .nil .nil)))))

noncomputable def D_law_cnfBegun_0 (pg : Prg)  (gh : List GObj) : Option (IExit × St) := 
  callR gh true (callL pg 16 [(.agg [(.int .i64 2), (.sl false 2 [(.agg [(.int .i64 2), (.int .i64 4)])])]), (.sl false 1 [(.int .i64 6)])] gh) fun r1 gh2 => unT 2 r1 fun r3 r4 => unA 2 (degr1 (degr1 r3)) fun c5 c6 => unI .i64 c5 fun n7 => unI .i64 (degr1 (degr1 r4)) fun n8 => onK c6 (onK (degr1 (degr1 c6)) (
  callR gh2 true (callL pg 32 [(.agg [(.int .i64 n7), (degr1 (degr1 c6))]), (.sl false 1 [(.bool true), (.bool true), (.bool true)])] gh2) fun r9 gh10 => unT 2 r9 fun r11 r12 => unB (degr1 (degr1 r11)) fun b13 => unI .i64 (degr1 (degr1 r12)) fun n14 => 
  br 21 (n8 == 0) (
  br 25 (n14 == 0) (
  br 28 b13 (
  br 33 (n7 == 3) (isC (degr c6) (lenS (degr (degr c6)) fun n15 => 
  br 39 ((n15 : Int) == 4) (onK (degr1 (degr1 c6)) (
  callR gh10 true (callL pg 59 [(.agg [(.int .i64 n7), (degr1 (degr1 c6))])] gh10) fun r16 gh17 => unI .i64 r16 fun n18 => some (.ret, ⟨[(0, (.bool (n18 == 0)))], [], gh17⟩))) (some (.ret, ⟨[(0, (.bool false))], [], gh10⟩)))) (some (.ret, ⟨[(0, (.bool false))], [], gh10⟩))) (some (.ret, ⟨[(0, (.bool false))], [], gh10⟩))) (some (.ret, ⟨[(0, (.bool false))], [], gh10⟩))) (some (.ret, ⟨[(0, (.bool false))], [], gh10⟩))))

theorem D_law_cnfBegun_0_ok {pg : Prg} {gh : List GObj}  {e : IExit} {s : St} (h : D_law_cnfBegun_0 pg  gh = some (e, s)) : runL pg f_law_cnfBegun_0 ⟨[], [], gh⟩ = some (e, s) :=
  runX_ok an_law_cnfBegun (Eq.trans (by kernel_rfl) h)

end Go.Lw
end
