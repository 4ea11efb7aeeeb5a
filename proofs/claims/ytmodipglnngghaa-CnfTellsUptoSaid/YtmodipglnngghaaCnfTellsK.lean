/-
  The texts that the proof stands on, part 11.
-/
import Derived.Test.YtmodipglnngghaaCnfTellsJ
import Derived.KernelRfl
set_option linter.unusedVariables false
set_option linter.unusedSimpArgs false
set_option linter.unnecessarySimpa false

/-! What the code of function slices_IndexFunc_LLint_Lint comes to, piece by piece. Written by program (dprint.py). -/
section
set_option maxRecDepth 10000
set_option maxHeartbeats 4000000
namespace Go.Lw
open Go

def an_slices_IndexFunc_LLint_Lint : Tr := (.node 10 (.ce (.int .i64)) (.node 6 (.ce (.one)) (.node 4 (.ce (.int .i64)) (.node 1 (.ce (.one)) (.node 0 (.ce (.one)) .nil .nil) .nil) (.node 5 (.ce (.int .i64)) .nil .nil)) (.node 8 (.ce (.int .i64)) (.node 7 (.ce (.int .i64)) .nil .nil) (.node 9 (.ce (.bool)) .nil .nil))) (.node 15 (.ce (.one)) (.node 12 (.ce (.one)) (.node 11 (.ce (.one)) .nil .nil) (.node 13 (.ce (.int .i64)) .nil .nil)) (.node 17 (.ce (.int .i64)) (.node 16 (.ce (.bool)) .nil .nil) (.node 18 (.ce (.int .i64)) .nil .nil))))

noncomputable def D_slices_IndexFunc_LLint_Lint_b1 (pg : Prg) (v0 : PV) (v1 : PV) (x7 : Int) (x8 : Int) (gh : List GObj) : Option (IExit × St) := 
  br 9 (decide (x8 < x7)) (stK 0 v0 (stK 0 v1 (isC (degr v1) (isC (degr v0) (
  idX 1 none (degr (degr v0)) x8 fun p1 => 
  ldX [] gh false 1 (degr p1) fun v2 => isC v2 (
  fnX (degr (degr v1)) fun f5 cs6 => arK (degr v2) (allK cs6 (callR gh true (callL pg f5 ([(degr v2)] ++ cs6) gh) fun r3 gh4 => unB r3 fun b7 => stK 0 v0 (stK 0 v1 (
  br 16 b7 (some (.ret, ⟨[(4, (.int .i64 x8))], [], gh4⟩)) (stK 0 v0 (stK 0 v1 (stK 0 v0 (stK 0 v1 (some (.normal, ⟨[(0, v0), (1, v1), (7, (.int .i64 x7)), (8, (.int .i64 (IntKind.i64.wrap (x8 + 1))))], [], gh4⟩)))))))))))))))) (some ((.exit 0), ⟨[(0, v0), (1, v1), (7, (.int .i64 x7)), (8, (.int .i64 x8)), (9, (.bool (decide (x8 < x7))))], [], gh⟩))

theorem D_slices_IndexFunc_LLint_Lint_b1_ok {pg : Prg} {gh : List GObj} {v0 : PV} {v1 : PV} {x7 : Int} {x8 : Int} {e : IExit} {s : St} (h : D_slices_IndexFunc_LLint_Lint_b1 pg v0 v1 x7 x8 gh = some (e, s)) : runL pg f_slices_IndexFunc_LLint_Lint_b1 ⟨[(0, v0), (1, v1), (7, (.int .i64 x7)), (8, (.int .i64 x8))], [], gh⟩ = some (e, s) :=
  runX_ok an_slices_IndexFunc_LLint_Lint (Eq.trans (by kernel_rfl) h)

noncomputable def D_slices_IndexFunc_LLint_Lint_k1 (pg : Prg)  (gh : List GObj) : Option (IExit × St) := some (.ret, ⟨[(4, (.int .i64 (-1)))], [], gh⟩)

theorem D_slices_IndexFunc_LLint_Lint_k1_ok {pg : Prg} {gh : List GObj}  {e : IExit} {s : St} (h : D_slices_IndexFunc_LLint_Lint_k1 pg  gh = some (e, s)) : runL pg f_slices_IndexFunc_LLint_Lint_k1 ⟨[], [], gh⟩ = some (e, s) :=
  runX_ok an_slices_IndexFunc_LLint_Lint (Eq.trans (by kernel_rfl) h)

noncomputable def D_slices_IndexFunc_LLint_Lint_0 (pg : Prg) (v0 : PV) (v1 : PV) (gh : List GObj) : Option (IExit × St) := stK 0 v0 (stK 0 v1 (isC (degr v0) (lenS (degr (degr v0)) fun n1 => stK 0 v0 (stK 0 v1 (
  kR (runL pg f_slices_IndexFunc_LLint_Lint_l1 ⟨[(0, v0), (1, v1), (7, (.int .i64 (n1 : Int))), (8, (.int .i64 0))], [], gh⟩) (fun e s => nx e s (fun e s => some (e, s)) fun s => kR (runL pg f_slices_IndexFunc_LLint_Lint_k1 s) (fun e s => some (e, s))))))))

theorem D_slices_IndexFunc_LLint_Lint_0_ok {pg : Prg} {gh : List GObj} {v0 : PV} {v1 : PV} {e : IExit} {s : St} (h : D_slices_IndexFunc_LLint_Lint_0 pg v0 v1 gh = some (e, s)) : runL pg f_slices_IndexFunc_LLint_Lint_0 ⟨[(0, v0), (1, v1)], [], gh⟩ = some (e, s) :=
  runX_ok an_slices_IndexFunc_LLint_Lint (Eq.trans (by kernel_rfl) h)

end Go.Lw
end

/-! What the code of function slices_ContainsFunc_LLint_Lint comes to, piece by piece. Written by program (dprint.py). -/
section
set_option maxRecDepth 10000
set_option maxHeartbeats 4000000
namespace Go.Lw
open Go

def an_slices_ContainsFunc_LLint_Lint : Tr := (.node 5 (.ce (.one)) (.node 1 (.ce (.one)) (.node 0 (.ce (.one)) .nil .nil) (.node 4 (.ce (.bool)) .nil .nil)) (.node 7 (.ce (.int .i64)) (.node 6 (.ce (.one)) .nil .nil) (.node 8 (.ce (.bool)) .nil .nil)))

noncomputable def D_slices_ContainsFunc_LLint_Lint_0 (pg : Prg) (v0 : PV) (v1 : PV) (gh : List GObj) : Option (IExit × St) := stK 0 v0 (stK 0 v1 (isC (degr v0) (isC (degr v1) (arK (degr (degr v0)) (arK (degr (degr v1)) (
  callR gh true (callL pg 117 [(degr (degr v0)), (degr (degr v1))] gh) fun r1 gh2 => unI .i64 r1 fun n3 => some (.ret, ⟨[(4, (.bool (decide (0 ≤ n3))))], [], gh2⟩)))))))

theorem D_slices_ContainsFunc_LLint_Lint_0_ok {pg : Prg} {gh : List GObj} {v0 : PV} {v1 : PV} {e : IExit} {s : St} (h : D_slices_ContainsFunc_LLint_Lint_0 pg v0 v1 gh = some (e, s)) : runL pg f_slices_ContainsFunc_LLint_Lint_0 ⟨[(0, v0), (1, v1)], [], gh⟩ = some (e, s) :=
  runX_ok an_slices_ContainsFunc_LLint_Lint (Eq.trans (by kernel_rfl) h)

end Go.Lw
end

/-! Clauses: what makes them hold. -/
section
namespace Go.Lw
open Go

theorem abs_eq {n : Int} (h : -9223372036854775807 ≤ n ∧ n ≤ 9223372036854775807) (gh : List GObj) : callL pg 116 [I n] gh = some (I n.natAbs, gh) := by
  have e : IntKind.i64.wrap (-n) = -n := wrap_id (by omega) (by omega)
  refine callL_fn (fn := f_cnf_abs) (s := ⟨[(2, I n.natAbs)], [], gh⟩) rfl rfl (D_cnf_abs_0_ok ?h1) ?r1
  case h1 =>
    simp [D_cnf_abs_0, e]
    split <;> omega
  case r1 => simp [finish, results, f_cnf_abs, resOfs, resOf, resOk]

/-- Is it so, by values? -/
def litN (v : List Bool) (n : Int) : Bool := v.getD (n.natAbs - 1) false == decide (0 < n)

/-- Numbers of variables. -/
def numIn (n : Int) (k : Nat) : Prop := n ≠ 0 ∧ n.natAbs ≤ k

theorem Hold1_eq {v : List Bool} {n : Int} {gh : List GObj} {b : Nat} (hb : gh[b]? = some (.cells [LB v])) (hn : numIn n v.length) (hs : v.length ≤ 3000000) : callL pg 98 [I n, .ptr true b 0] gh = some (B (litN v n), gh) := by
  obtain ⟨h0, h1⟩ := hn
  have ha := abs_eq (n := n) (by omega) gh
  have hlt : n.natAbs - 1 < v.length := by omega
  have e1 : IntKind.i64.wrap ((n.natAbs : Int) - 1) = ((n.natAbs - 1 : Nat) : Int) := by rw [wrap_id (by omega) (by omega)]; omega
  have e2 : litN v n = (v[n.natAbs - 1] == decide (0 < n)) := by unfold litN; simp [List.getD_eq_getElem?_getD, List.getElem?_eq_getElem hlt]
  rw [e2]
  have hx : (v.map B)[n.natAbs - 1]? = some (B v[n.natAbs - 1]) := by simp [List.getElem?_eq_getElem hlt]
  generalize hk : n.natAbs - 1 = k at *
  refine callL_fn (fn := f_cnf_Hold_1) (s := ?s1) rfl rfl (D_cnf_Hold_1_0_ok ?h2) ?r1
  case h2 => simp [D_cnf_Hold_1_0, hb, ha, e1, hx, -List.getElem?_map]; rfl
  case r1 => simp [finish, results, f_cnf_Hold_1, resOfs, resOf, resOk]

theorem Hold2_eq {v : List Bool} {l : List Int} {gh : List GObj} {b b2 : Nat} (hb : gh[b]? = some (.cells [LB v])) (hb2 : gh[b2]? = some (.cells [.fn 98 [.ptr true b 0]])) (hn : ∀ n ∈ l, numIn n v.length) (hs : v.length ≤ 3000000) (hl : Sz l.length) :
    callL pg 99 [LI l, .ptr true b2 0] gh = some (B (!l.any (litN v)), gh) := by
  have hc : ∀ x ∈ l, callL pg 98 (I x :: [.ptr true b 0]) gh = some (B (litN v x), gh) := fun x hx => Hold1_eq hb (hn x hx) hs
  have := ContainsFunc_eq (caps := [.ptr true b 0]) hc (by simp) hl
  refine callL_fn (fn := f_cnf_Hold_2) (s := ?s1) rfl rfl (D_cnf_Hold_2_0_ok ?h1) ?r1
  case h1 => simp [D_cnf_Hold_2_0, hb2, this]; rfl
  case r1 => simp [finish, results, f_cnf_Hold_2, resOfs, resOf, resOk]

theorem IndexFuncL_loop {xs : List (List Int)} {c : Nat} {caps : List PV} {gh : List GObj} {p : List Int → Bool} (hc : ∀ x ∈ xs, callL pg c (LI x :: caps) gh = some (B (p x), gh)) (hcap : caps.all argOk = true) (hs : Sz xs.length) :
    ∀ k i, i + k = xs.length → runL pg f_slices_IndexFunc_LLint_Lint_l1 ⟨[(0, .sl false 1 (LLI xs)), (1, .fn c caps), (7, I xs.length), (8, I i)], [], gh⟩ =
      match (xs.drop i).findIdx? p with
      | some j => some (.ret, ⟨[(4, I ((i + j : Nat)))], [], gh⟩)
      | none => some (.normal, ⟨[], [], gh⟩)
  | 0, i, h => by
    rw [List.drop_eq_nil_of_le (by omega)]
    refine (lp_exit (s1 := ?s1) (D_slices_IndexFunc_LLint_Lint_b1_ok ?h1)).trans ?r1
    case h1 => simp [D_slices_IndexFunc_LLint_Lint_b1, show i = xs.length by omega]; rfl
    case r1 => simp [keep]
  | k + 1, i, h => by
    have hlt : i < xs.length := by omega
    have hx : (xs.map fun l => LI l)[i]? = some (LI xs[i]) := by simp [List.getElem?_eq_getElem hlt]
    rw [List.drop_eq_getElem_cons hlt, List.findIdx?_cons]
    have hci := hc xs[i] (List.getElem_mem hlt)
    have hltI : (i : Int) < (xs.length : Int) := by omega
    cases hp : p xs[i] with
    | true =>
      refine (lp_ret (s1 := ?s2) (D_slices_IndexFunc_LLint_Lint_b1_ok ?h2)).trans ?r2
      case h2 => simp [D_slices_IndexFunc_LLint_Lint_b1, hltI, hx, allK_ok hcap, hci, hp, -List.getElem?_map]; rfl
      case r2 => simp
    | false =>
      refine lp_next (s1 := ⟨[(0, .sl false 1 (LLI xs)), (1, .fn c caps), (7, I xs.length), (8, I (IntKind.i64.wrap ((i : Int) + 1)))], [], gh⟩) (D_slices_IndexFunc_LLint_Lint_b1_ok ?h3) ?r3
      case h3 => simp [D_slices_IndexFunc_LLint_Lint_b1, hltI, hx, allK_ok hcap, hci, hp, -List.getElem?_map]
      case r3 =>
        rw [wrap_nat (by omega)]
        refine (IndexFuncL_loop hc hcap hs k (i + 1) (by omega)).trans ?_
        cases (xs.drop (i + 1)).findIdx? p <;> simp
        omega

theorem IndexFuncL_eq {xs : List (List Int)} {c : Nat} {caps : List PV} {gh : List GObj} {p : List Int → Bool} (hc : ∀ x ∈ xs, callL pg c (LI x :: caps) gh = some (B (p x), gh)) (hcap : caps.all argOk = true) (hs : Sz xs.length) :
    callL pg 117 [.sl false 1 (LLI xs), .fn c caps] gh = some (I (match xs.findIdx? p with | some j => (j : Int) | none => -1), gh) := by
  have hl := IndexFuncL_loop hc hcap hs xs.length 0 (by omega)
  simp only [List.drop_zero, Nat.zero_add, Int.natCast_zero] at hl
  have hLl : (LLI xs).length = xs.length := by simp [LLI]
  generalize LLI xs = L at *
  cases hf : xs.findIdx? p with
  | some j =>
    rw [hf] at hl
    refine callL_fn (fn := f_slices_IndexFunc_LLint_Lint) (s := ?s4) rfl rfl (D_slices_IndexFunc_LLint_Lint_0_ok ?h4) ?r4
    case h4 => simp [D_slices_IndexFunc_LLint_Lint_0, hLl, hl]; rfl
    case r4 => simp [finish, results, f_slices_IndexFunc_LLint_Lint, resOfs, resOf, resOk]
  | none =>
    rw [hf] at hl
    refine callL_fn (fn := f_slices_IndexFunc_LLint_Lint) (s := ?s5) rfl rfl (D_slices_IndexFunc_LLint_Lint_0_ok ?h5) ?r5
    case h5 => simp [D_slices_IndexFunc_LLint_Lint_0, hLl, hl, D_slices_IndexFunc_LLint_Lint_k1_ok (s := ⟨[(4, I (-1))], [], gh⟩) (e := .ret) rfl]; rfl
    case r5 => simp [finish, results, f_slices_IndexFunc_LLint_Lint, resOfs, resOf, resOk]

theorem ContainsFuncL_eq {xs : List (List Int)} {c : Nat} {caps : List PV} {gh : List GObj} {p : List Int → Bool} (hc : ∀ x ∈ xs, callL pg c (LI x :: caps) gh = some (B (p x), gh)) (hcap : caps.all argOk = true) (hs : Sz xs.length) :
    callL pg 100 [.sl false 1 (LLI xs), .fn c caps] gh = some (B (xs.any p), gh) := by
  have h := IndexFuncL_eq hc hcap hs
  have : (decide (0 ≤ (match xs.findIdx? p with | some j => (j : Int) | none => -1))) = xs.any p := by
    cases hf : xs.findIdx? p with
    | some j =>
      have := List.findIdx?_eq_some_iff_getElem.1 hf
      obtain ⟨hj, hpj, _⟩ := this
      simp only [Int.natCast_nonneg, decide_true]
      exact (List.any_eq_true.2 ⟨_, List.getElem_mem hj, hpj⟩).symm
    | none =>
      have := List.findIdx?_eq_none_iff.1 hf
      simp only [show decide ((0 : Int) ≤ -1) = false by decide]
      exact (List.any_eq_false.2 fun x hx => by simp [this x hx]).symm
  generalize LLI xs = L at *
  refine callL_fn (fn := f_slices_ContainsFunc_LLint_Lint) (s := ?s6) rfl rfl (D_slices_ContainsFunc_LLint_Lint_0_ok ?h6) ?r6
  case h6 => simp [D_slices_ContainsFunc_LLint_Lint_0, h]; rfl
  case r6 => simp [finish, results, f_slices_ContainsFunc_LLint_Lint, resOfs, resOf, resOk, this]

/-- Do all clauses hold? -/
def holdB (v : List Bool) (cls : List (List Int)) : Bool := cls.all fun l => l.any (litN v)

theorem Hold_eq {vars : Int} {v : List Bool} {cls : List (List Int)} {gh : List GObj} (hn : ∀ l ∈ cls, ∀ n ∈ l, numIn n v.length) (hs : v.length ≤ 3000000) (hl : SL cls) (hz : Sz cls.length) :
    callL pg 70 [clV vars cls, LB v] gh = some (B (holdB v cls), gh) := by
  have hg : ∀ x : GObj, (gh ++ [.cells [LB v], x])[gh.length]? = some (.cells [LB v]) := fun x => by simp
  have hc : ∀ x ∈ cls, callL pg 99 (LI x :: [.ptr true (gh.length + 1) 0]) (gh ++ [.cells [LB v], .cells [.fn 98 [.ptr true gh.length 0]]]) = some (B (!x.any (litN v)), gh ++ [.cells [LB v], .cells [.fn 98 [.ptr true gh.length 0]]]) :=
    fun x hx => Hold2_eq (b := gh.length) (by simp) (by simp) (hn x hx) hs (hl x hx)
  have h := ContainsFuncL_eq hc (by simp) hz
  have e : (!cls.any fun l => !l.any (litN v)) = holdB v cls := by
    unfold holdB
    rw [List.not_any_eq_all_not]; simp
  unfold clV
  unfold LLI at h
  generalize (cls.map fun l => LI l) = L at *
  refine callL_fn (fn := f_cnf_Hold) (s := ⟨[(4, B (holdB v cls))], [], gh ++ [.cells [LB v], .cells [.fn 98 [.ptr true gh.length 0]]]⟩) rfl rfl (D_cnf_Hold_0_ok ?h1) ?r1
  case h1 =>
    rw [← e]
    simp [D_cnf_Hold_0, spliceAt, h]
  case r1 => simp [finish, results, f_cnf_Hold, resOfs, resOf, resOk]

/-- What Holds answers. -/
def holdsE (vars : Int) (cls : List (List Int)) (v : List Bool) : Bool × Int :=
  if clsE vars cls ≠ 0 then (false, clsE vars cls) else if (v.length : Int) ≠ vars then (false, 1) else (holdB v cls, 0)

theorem firstE_zero {vars : Int} : ∀ {cls : List (List Int)}, firstE vars cls = 0 → ∀ l ∈ cls, oneE vars l = 0
  | l :: r, h, x, hx => by
    rw [firstE] at h
    split at h
    · rename_i h0
      rcases List.mem_cons.1 hx with rfl | hx
      · exact h0
      · exact firstE_zero h x hx
    · rename_i h0; exact absurd h h0

theorem clsE_zero {vars : Int} {cls : List (List Int)} (h : clsE vars cls = 0) : (0 ≤ vars ∧ vars ≤ 200000) ∧ cls.length ≤ 800000 ∧ ∀ l ∈ cls, l.length ≤ 200 ∧ ∀ n ∈ l, n ≠ 0 ∧ -vars ≤ n ∧ n ≤ vars := by
  unfold clsE at h
  split at h
  · cases h
  · rename_i h1
    split at h
    · cases h
    · rename_i h2
      refine ⟨by omega, by omega, fun l hl => ?_⟩
      have := firstE_zero h l hl
      unfold oneE at this
      split at this
      · cases this
      · rename_i h3
        split at this
        · cases this
        · rename_i h4
          refine ⟨by omega, fun n hn => ?_⟩
          have hb : badN vars n = false := by
            rw [Bool.eq_false_iff]
            intro hb
            exact h4 (List.any_eq_true.2 ⟨n, hn, hb⟩)
          unfold badN at hb
          rw [wrap_id (by omega) (by omega), decide_eq_false_iff_not] at hb
          omega

theorem Holds_eq {vars : Int} {v : List Bool} {cls : List (List Int)} {gh : List GObj} (hl : SL cls) : callL pg 32 [clV vars cls, LB v] gh = some (.tup [B (holdsE vars cls v).1, I (holdsE vars cls v).2], gh) := by
  have hC := CheckC_eq (gh := gh) (vars := vars) hl
  unfold holdsE
  by_cases hc : clsE vars cls = 0
  · obtain ⟨h1, h2, h3⟩ := clsE_zero hc
    rw [hc] at hC
    rw [if_neg (fun h => h hc)]
    by_cases hv : (v.length : Int) = vars
    · rw [if_neg (fun h => h hv)]
      have hH := Hold_eq (gh := gh) (vars := vars) (v := v) (cls := cls) (fun l hl n hn => by
        have := (h3 l hl).2 n hn
        exact ⟨this.1, by omega⟩) (by omega) hl (by simp only [Sz]; omega)
      unfold clV at *
      generalize (cls.map fun l => LI l) = L at *
      refine callL_fn (fn := f_cnf_Holds) (s := ?s1) rfl rfl (D_cnf_Holds_0_ok ?h1) ?r1
      case h1 => simp [D_cnf_Holds_0, hC, hv, hH]; rfl
      case r1 => simp [finish, results, f_cnf_Holds, resOfs, resOf, resOk]
    · rw [if_pos hv]
      unfold clV at *
      generalize (cls.map fun l => LI l) = L at *
      refine callL_fn (fn := f_cnf_Holds) (s := ?s2) rfl rfl (D_cnf_Holds_0_ok ?h2) ?r2
      case h2 => simp [D_cnf_Holds_0, hC, hv]; rfl
      case r2 => simp [finish, results, f_cnf_Holds, resOfs, resOf, resOk]
  · rw [if_pos hc]
    unfold clV at *
    generalize (cls.map fun l => LI l) = L at *
    refine callL_fn (fn := f_cnf_Holds) (s := ?s3) rfl rfl (D_cnf_Holds_0_ok ?h3) ?r3
    case h3 => simp [D_cnf_Holds_0, hC, hc]; rfl
    case r3 => simp [finish, results, f_cnf_Holds, resOfs, resOf, resOk]

theorem cnfBegun_true (gh : List GObj) : callL pg 18 [] gh = some (B true, gh) := by
  have r1 : RA [(2, 4)] := fun x h => by
    simp at h; subst h; exact ⟨by decide, by decide⟩
  have c1 : chkE 2 [(2, 4)] = 0 := by decide +kernel
  have c2 : [6].all (isLit 2 [(2, 4)]) = true := by decide +kernel
  have c3 : IntKind.i64.wrap (2 + (([(2, 4)] : List (Int × Int)).length : Int)) = 3 := by decide +kernel
  have c4 : andsC 2 0 0 [(2, 4)] ++ rootsC 0 [6] = [[-3, 1], [-3, 2], [3, -1, -2], [3]] := by decide +kernel
  have c5 : clsE 3 [[-3, 1], [-3, 2], [3, -1, -2], [3]] = 0 := by decide +kernel
  have e1 : ofE 2 [(2, 4)] [6] = .tup [clV 3 [[-3, 1], [-3, 2], [3, -1, -2], [3]], I 0] := by
    unfold ofE
    rw [if_neg (fun h => h c1), if_neg (by rw [c2]; simp), c3, c4, doneE, if_pos c5]
  have hO := Of_eq (ins := 2) (ands := [(2, 4)]) (roots := [6]) (gh := gh) r1 (by simp)
  rw [e1] at hO
  have hsl : SL [[-3, 1], [-3, 2], [3, -1, -2], [3]] := fun l h => by
    simp only [List.mem_cons, List.not_mem_nil, or_false] at h
    rcases h with rfl | rfl | rfl | rfl <;> simp
  have e2 : holdsE 3 [[-3, 1], [-3, 2], [3, -1, -2], [3]] [true, true, true] = (true, 0) := by decide +kernel
  have hH := Holds_eq (vars := 3) (v := [true, true, true]) (gh := gh) hsl
  rw [e2] at hH
  have hC := CheckC_eq (vars := 3) (gh := gh) hsl
  rw [c5] at hC
  simp only [graphV, andV, clV, LI, LB, List.map_cons, List.map_nil] at hO hH hC
  refine callL_fn (fn := f_law_cnfBegun) (s := ⟨[(0, B true)], [], gh⟩) rfl rfl (D_law_cnfBegun_0_ok ?h1) ?r1
  case h1 => simp [D_law_cnfBegun_0, hO, hH, hC]
  case r1 => simp [finish, results, f_law_cnfBegun, resOfs, resOf, resOk]

end Go.Lw
end

/-! What a graph tells, and what makes its clauses hold. -/
section
namespace Go.Lw
open Go

theorem litV_take {p full : List Bool} {x : Int} (hp : p = full.take p.length) (hx : (x / 2).toNat < p.length) : litV p x = litV full x := by
  unfold litV
  have : p.getD (x / 2).toNat false = full.getD (x / 2).toNat false := by
    rw [List.getD_eq_getElem?_getD, List.getD_eq_getElem?_getD]
    conv => lhs; rw [hp]
    rw [List.getElem?_take, if_pos hx]
  rw [this]

/-- What all nodes are: the one list whose Ands are what they say. -/
theorem allFrom_iff : ∀ (l : List (Int × Int)) (p full : List Bool), full.length = p.length + l.length → p = full.take p.length → (∀ j (h : j < l.length), litsIn l[j] (p.length + j)) →
    (allFrom p l = full ↔ ∀ j (h : j < l.length), full.getD (p.length + j) false = (litV full l[j].1 && litV full l[j].2))
  | [], p, full, hl, hp, _ => by
    rw [allFrom]
    simp at hl
    refine ⟨fun _ j h => by simp at h, fun _ => ?_⟩
    rw [hp, ← hl, List.take_length]
  | x :: l, p, full, hl, hp, hin => by
    rw [allFrom]
    have h0 := hin 0 (by simp)
    simp only [List.getElem_cons_zero, Nat.add_zero] at h0
    have e1 := litV_take (x := x.1) hp h0.1.2.2
    have e2 := litV_take (x := x.2) hp h0.2.2.2
    simp only [List.length_cons] at hl
    have hlt : p.length < full.length := by omega
    have hgd : full.getD p.length false = full[p.length] := by rw [List.getD_eq_getElem?_getD, List.getElem?_eq_getElem hlt]; rfl
    have htk : full.take (p.length + 1) = p ++ [full[p.length]] := by rw [List.take_add_one, ← hp, List.getElem?_eq_getElem hlt]; rfl
    by_cases hb : full[p.length] = (litV full x.1 && litV full x.2)
    · have hlen : (p ++ [litV p x.1 && litV p x.2]).length = p.length + 1 := by simp
      have := allFrom_iff l (p ++ [litV p x.1 && litV p x.2]) full (by rw [hlen]; omega) (by rw [hlen, htk, e1, e2, hb]) (fun j h => by
        have := hin (j + 1) (by simpa using h)
        rw [hlen]
        rw [show p.length + 1 + j = p.length + (j + 1) by omega]
        simpa using this)
      rw [this, hlen]
      constructor
      · intro h j hj
        cases j with
        | zero => rw [Nat.add_zero, hgd, hb]; rfl
        | succ j =>
          have := h j (by simpa using hj)
          rw [show p.length + (j + 1) = p.length + 1 + j by omega]
          simpa using this
      · intro h j hj
        have := h (j + 1) (by simpa using hj)
        rw [show p.length + 1 + j = p.length + (j + 1) by omega]
        simpa using this
    · constructor
      · intro h
        exfalso
        have hlen := allFrom_len (p ++ [litV p x.1 && litV p x.2]) l
        have hpre : ∀ (q : List Bool) (m : List (Int × Int)), (allFrom q m).take q.length = q := by
          intro q m
          induction m generalizing q with
          | nil => rw [allFrom, List.take_length]
          | cons y m ih =>
            rw [allFrom]
            have := ih (q ++ [litV q y.1 && litV q y.2])
            have h2 := congrArg (List.take q.length) this
            rw [List.take_take, Nat.min_eq_left (by simp), List.take_append_of_le_length (Nat.le_refl _), List.take_length] at h2
            exact h2
        have h3 := hpre (p ++ [litV p x.1 && litV p x.2]) l
        rw [h, show (p ++ [litV p x.1 && litV p x.2]).length = p.length + 1 by simp, htk, e1, e2] at h3
        have := List.append_cancel_left h3
        simp only [List.cons.injEq, and_true] at this
        exact hb this
      · intro h
        exfalso
        have := h 0 (by simp)
        rw [Nat.add_zero, hgd] at this
        exact hb this

theorem numE_lit {x : Int} (h : 0 ≤ x ∧ x ≤ 9223372036854775807) : numE x 0 = if x % 2 = 1 then -(x / 2) else x / 2 := by
  have e2 : Int.tmod x 2 = x % 2 := Int.tmod_eq_emod_of_nonneg h.1
  unfold numE
  rw [e2, tdiv2 h.1, Int.add_zero, wrap_id (n := x / 2) (by omega) (by omega), wrap_id (n := x / 2) (by omega) (by omega), wrap_id (n := -(x / 2)) (by omega) (by omega)]

theorem litN_pos {v : List Bool} {k : Nat} (h : 1 ≤ k) : litN v (k : Int) = (false :: v).getD k false := by
  unfold litN
  have e : decide ((0 : Int) < (k : Int)) = true := decide_eq_true (by omega)
  rw [e, show ((k : Int)).natAbs = k by omega]
  obtain ⟨k, rfl⟩ : ∃ j, k = j + 1 := ⟨k - 1, by omega⟩
  simp

theorem litN_neg {v : List Bool} {n : Int} (h : n ≠ 0) : litN v (-n) = !litN v n := by
  unfold litN
  rw [Int.natAbs_neg]
  have : decide (0 < -n) = !decide (0 < n) := by
    by_cases h1 : 0 < n
    · rw [decide_eq_true h1, decide_eq_false (by omega)]; rfl
    · rw [decide_eq_false h1, decide_eq_true (by omega)]; rfl
  rw [this]
  generalize v.getD (n.natAbs - 1) false = b
  cases b <;> cases decide (0 < n) <;> rfl

/-- A literal's number tells what the literal tells. -/
theorem litN_num {v : List Bool} {x : Int} (h : 2 ≤ x ∧ x ≤ 9223372036854775807) : litN v (numE x 0) = litV (false :: v) x := by
  rw [numE_lit (by omega)]
  obtain ⟨k, hk⟩ : ∃ k : Nat, x / 2 = k := ⟨(x / 2).toNat, by omega⟩
  have hk1 : 1 ≤ k := by omega
  unfold litV
  rw [hk]
  simp only [Int.toNat_natCast]
  split
  · rename_i ho
    rw [litN_neg (by omega), litN_pos hk1, decide_eq_true ho]
    cases (false :: v).getD k false <;> rfl
  · rename_i ho
    rw [litN_pos hk1, decide_eq_false ho]
    cases (false :: v).getD k false <;> rfl

theorem numE_ne {x : Int} (h : 2 ≤ x ∧ x ≤ 9223372036854775807) : numE x 0 ≠ 0 ∧ -9223372036854775807 ≤ numE x 0 ∧ numE x 0 ≤ 9223372036854775807 := by
  rw [numE_lit (by omega)]
  split <;> omega

theorem andC_hold {v : List Bool} {ins : Int} {i : Nat} {x : Int × Int} (hi : 0 ≤ ins ∧ ins ≤ 1000) (hl : i ≤ 1000000) (h1 : 2 ≤ x.1 ∧ x.1 ≤ 9223372036854775807) (h2 : 2 ≤ x.2 ∧ x.2 ≤ 9223372036854775807) :
    holdB v (andC ins 0 i x) = ((false :: v).getD (1 + ins.toNat + i) false == (litV (false :: v) x.1 && litV (false :: v) x.2)) := by
  have hN : nOf ins 0 i = ((1 + ins.toNat + i : Nat) : Int) := by
    unfold nOf
    rw [Int.add_zero, wrap_id (n := 1 + ins) (by omega) (by omega), wrap_id (n := 1 + ins + i) (by omega) (by omega), wrap_id (n := 1 + ins + i) (by omega) (by omega)]
    omega
  obtain ⟨a0, a1, a2⟩ := numE_ne h1
  obtain ⟨b0, b1, b2⟩ := numE_ne h2
  have ea := litN_num (v := v) h1
  have eb := litN_num (v := v) h2
  unfold holdB andC
  rw [hN]
  unfold negI
  rw [wrap_id (n := -((1 + ins.toNat + i : Nat) : Int)) (by omega) (by omega), wrap_id (n := -numE x.1 0) (by omega) (by omega), wrap_id (n := -numE x.2 0) (by omega) (by omega)]
  simp only [List.all_cons, List.all_nil, List.any_cons, List.any_nil, Bool.or_false, Bool.and_true]
  rw [litN_neg (by omega), litN_neg a0, litN_neg b0, ea, eb, litN_pos (by omega)]
  cases (false :: v).getD (1 + ins.toNat + i) false <;> cases litV (false :: v) x.1 <;> cases litV (false :: v) x.2 <;> rfl

theorem holdB_append (v : List Bool) (a b : List (List Int)) : holdB v (a ++ b) = (holdB v a && holdB v b) := List.all_append

theorem andsC_hold {v : List Bool} {ins : Int} (hi : 0 ≤ ins ∧ ins ≤ 1000) : ∀ (l : List (Int × Int)) (i : Nat), i + l.length ≤ 1000000 → (∀ x ∈ l, (2 ≤ x.1 ∧ x.1 ≤ 9223372036854775807) ∧ 2 ≤ x.2 ∧ x.2 ≤ 9223372036854775807) →
    (holdB v (andsC ins 0 i l) = true ↔ ∀ j (h : j < l.length), (false :: v).getD (1 + ins.toNat + i + j) false = (litV (false :: v) l[j].1 && litV (false :: v) l[j].2))
  | [], i, _, _ => ⟨fun _ j h => by simp at h, fun _ => rfl⟩
  | x :: l, i, hl, hx => by
    simp only [List.length_cons] at hl
    obtain ⟨h1, h2⟩ := hx x (by simp)
    rw [andsC, holdB_append, Bool.and_eq_true, andC_hold hi (by omega) h1 h2, andsC_hold hi l (i + 1) (by omega) (fun y hy => hx y (List.mem_cons_of_mem _ hy)), beq_iff_eq]
    constructor
    · rintro ⟨h3, h4⟩ j hj
      cases j with
      | zero => simpa using h3
      | succ j =>
        have := h4 j (by simpa using hj)
        rw [show 1 + ins.toNat + i + (j + 1) = 1 + ins.toNat + (i + 1) + j by omega]
        simpa using this
    · intro h
      refine ⟨h 0 (by simp), fun j hj => ?_⟩
      have := h (j + 1) (by simpa using hj)
      rw [show 1 + ins.toNat + (i + 1) + j = 1 + ins.toNat + i + (j + 1) by omega]
      simpa using this

theorem mustC_hold {v : List Bool} {r : Int} (h : 0 ≤ r ∧ r ≤ 9223372036854775807) : holdB v (mustC r 0) = litV (false :: v) r := by
  unfold mustC
  split
  · rename_i h1; subst h1; rfl
  · split
    · rename_i h0; subst h0; rfl
    · have : holdB v [[numE r 0]] = litN v (numE r 0) := by simp [holdB]
      rw [this, litN_num (by omega)]

theorem rootsC_hold {v : List Bool} : ∀ (roots : List Int), (∀ r ∈ roots, 0 ≤ r ∧ r ≤ 9223372036854775807) → holdB v (rootsC 0 roots) = roots.all (litV (false :: v))
  | [], _ => rfl
  | r :: l, h => by
    rw [rootsC, holdB_append, mustC_hold (h r (by simp)), rootsC_hold l fun x hx => h x (List.mem_cons_of_mem _ hx), List.all_cons]

end Go.Lw
end

/-! What the code of function law_gatesBegun comes to, piece by piece. Written by program (dprint.py). -/
section
set_option maxRecDepth 10000
set_option maxHeartbeats 4000000
namespace Go.Lw
open Go

def an_law_gatesBegun : Tr := (.node 28 (.ce (.bool)) (.node 14 (.ce (.one)) (.node 7 (.agg [.int .i64, .any]) (.node 4 (.ce (.one)) (.node 2 (.ce (.int .i64)) (.node 0 (.ce (.bool)) .nil .nil) (.node 3 (.ce (.int .i64)) .nil .nil)) (.node 6 (.tup 3) (.node 5 (.ce (.int .i64)) .nil .nil) .nil)) (.node 11 (.ce (.int .i64)) (.node 9 (.agg [.int .i64, .any]) (.node 8 (.tup 3) .nil .nil) (.node 10 (.ce (.int .i64)) .nil .nil)) (.node 13 (.agg [.int .i64, .any]) (.node 12 (.tup 2) .nil .nil) .nil))) (.node 21 (.ce (.int .i64)) (.node 18 (.ce (.one)) (.node 16 (.ce (.int .i64)) (.node 15 (.ce (.int .i64)) .nil .nil) (.node 17 (.ce (.int .i64)) .nil .nil)) (.node 20 (.ce (.one)) (.node 19 (.tup 2) .nil .nil) .nil)) (.node 25 (.ce (.int .i64)) (.node 23 (.ce (.bool)) (.node 22 (.ce (.int .i64)) .nil .nil) (.node 24 (.ce (.bool)) .nil .nil)) (.node 27 (.ce (.bool)) (.node 26 (.ce (.bool)) .nil .nil) .nil)))) (.node 43 (.ce (.bool)) (.node 36 (.ce (.bool)) (.node 32 (.ce (.bool)) (.node 30 (.ce (.bool)) (.node 29 (.ce (.int .i64)) .nil .nil) (.node 31 (.ce (.bool)) .nil .nil)) (.node 35 (.ce (.int .i64)) (.node 34 (.ce (.one)) .nil .nil) .nil)) (.node 40 (.ce (.int .i64)) (.node 38 (.ce (.bool)) (.node 37 (.ce (.bool)) .nil .nil) (.node 39 (.ce (.one)) .nil .nil)) (.node 42 (.ce (.bool)) (.node 41 (.ce (.bool)) .nil .nil) .nil))) (.node 52 (.ce (.bool)) (.node 48 (.ce (.bool)) (.node 46 (.ce (.bool)) (.node 44 (.ce (.one)) .nil .nil) (.node 47 (.ce (.bool)) .nil .nil)) (.node 51 (.ce (.bool)) (.node 49 (.ce (.one)) .nil .nil) .nil)) (.node 56 (.ce (.int .i64)) (.node 54 (.ce (.bool)) (.node 53 (.ce (.bool)) .nil .nil) (.node 55 (.agg [.int .i64, .any]) .nil .nil)) (.node 58 (.ce (.bool)) (.node 57 (.ce (.bool)) .nil .nil) .nil)))))

noncomputable def D_law_gatesBegun_0 (pg : Prg)  (gh : List GObj) : Option (IExit × St) := 
  callR gh true (callL pg 1 [(.agg [(.int .i64 2), (.sl false 2 [])]), (.int .i64 4), (.int .i64 2)] gh) fun r1 gh2 => unT 3 r1 fun r3 r4 r5 => unA 2 (degr1 (degr1 r3)) fun c6 c7 => unI .i64 c6 fun n8 => unI .i64 (degr1 (degr1 r4)) fun n9 => unI .i64 (degr1 (degr1 r5)) fun n10 => onK c7 (onK (degr1 (degr1 c7)) (
  callR gh2 true (callL pg 9 [(.agg [(.int .i64 n8), (degr1 (degr1 c7))]), (.sl false 1 [(.bool true), (.bool true)]), (.sl false 1 [(.int .i64 n9), (.int .i64 (IntKind.i64.wrap (n9 + 1)))])] gh2) fun r11 gh12 => unT 2 r11 fun r13 r14 => isC (degr1 (degr1 r13)) (unI .i64 (degr1 (degr1 r14)) fun n15 => stK 1 (degr1 (degr1 r13)) (
  br 24 (n10 == 0) (
  br 28 (n15 == 0) (
  br 32 (n9 == 6) (isC (degr c7) (lenS (degr (degr c7)) fun n16 => 
  br 38 ((n16 : Int) == 1) (isC (degr (degr1 (degr1 r13))) (lenS (degr (degr (degr1 (degr1 r13)))) fun n17 => 
  br 43 ((n17 : Int) == 2) (isC (degr (degr1 (degr1 r13))) (
  idX 1 none (degr (degr (degr1 (degr1 r13)))) 0 fun p18 => 
  ldX [[(.int .i64 n8), c7]] gh12 false 1 (degr p18) fun v19 => unB v19 fun b20 => 
  br 48 b20 (isC (degr (degr1 (degr1 r13))) (
  idX 1 none (degr (degr (degr1 (degr1 r13)))) 1 fun p21 => 
  ldX [[(.int .i64 n8), c7]] gh12 false 1 (degr p21) fun v22 => unB v22 fun b23 => 
  br 54 (!b23) (onK (degr1 (degr1 c7)) (
  callR gh12 true (callL pg 6 [(.agg [(.int .i64 n8), (degr1 (degr1 c7))])] gh12) fun r24 gh25 => unI .i64 r24 fun n26 => some (.ret, ⟨[(0, (.bool (n26 == 0)))], [], gh25⟩))) (some (.ret, ⟨[(0, (.bool false))], [], gh12⟩)))) (some (.ret, ⟨[(0, (.bool false))], [], gh12⟩)))) (some (.ret, ⟨[(0, (.bool false))], [], gh12⟩)))) (some (.ret, ⟨[(0, (.bool false))], [], gh12⟩)))) (some (.ret, ⟨[(0, (.bool false))], [], gh12⟩))) (some (.ret, ⟨[(0, (.bool false))], [], gh12⟩))) (some (.ret, ⟨[(0, (.bool false))], [], gh12⟩))))))

theorem D_law_gatesBegun_0_ok {pg : Prg} {gh : List GObj}  {e : IExit} {s : St} (h : D_law_gatesBegun_0 pg  gh = some (e, s)) : runL pg f_law_gatesBegun_0 ⟨[], [], gh⟩ = some (e, s) :=
  runX_ok an_law_gatesBegun (Eq.trans (by kernel_rfl) h)

end Go.Lw
end

/-! What the code of function ref_CheckGraph comes to, piece by piece. Written by program (dprint.py). -/
section
set_option maxRecDepth 10000
set_option maxHeartbeats 4000000
namespace Go.Lw
open Go

def an_ref_CheckGraph : Tr := (.node 40 (.ce (.bool)) (.node 19 (.ce (.bool)) (.node 9 (.ce (.bool)) (.node 4 (.ce (.int .i64)) (.node 2 (.ce (.int .i64)) (.node 0 (.agg [.int .i64, .any]) .nil .nil) (.node 3 (.ce (.int .i64)) .nil .nil)) (.node 6 (.ce (.int .i64)) (.node 5 (.ce (.int .i64)) .nil .nil) (.node 8 (.ce (.int .i64)) .nil .nil))) (.node 14 (.ce (.bool)) (.node 12 (.ce (.one)) (.node 10 (.ce (.bool)) .nil .nil) (.node 13 (.ce (.int .i64)) .nil .nil)) (.node 17 (.ce (.one)) (.node 15 (.ce (.int .i64)) .nil .nil) (.node 18 (.ce (.int .i64)) .nil .nil)))) (.node 33 (.ce (.int .i64)) (.node 24 (.ce (.int .i64)) (.node 21 (.ce (.int .i64)) (.node 20 (.ce (.int .i64)) .nil .nil) (.node 23 (.ce (.one)) .nil .nil)) (.node 29 (.ce (.one)) (.node 27 (.ce (.int .i64)) .nil .nil) (.node 30 (.ce (.int .i64)) .nil .nil))) (.node 37 (.ce (.bool)) (.node 35 (.ce (.int .i64)) (.node 34 (.ce (.int .i64)) .nil .nil) (.node 36 (.ce (.bool)) .nil .nil)) (.node 39 (.ce (.bool)) (.node 38 (.ce (.int .i64)) .nil .nil) .nil)))) (.node 56 (.ce (.bool)) (.node 49 (.ce (.bool)) (.node 45 (.ce (.int .i64)) (.node 42 (.ce (.int .i64)) (.node 41 (.ce (.bool)) .nil .nil) (.node 44 (.ce (.int .i64)) .nil .nil)) (.node 47 (.ce (.int .i64)) (.node 46 (.ce (.int .i64)) .nil .nil) (.node 48 (.ce (.int .i64)) .nil .nil))) (.node 53 (.ce (.int .i64)) (.node 51 (.ce (.bool)) (.node 50 (.ce (.bool)) .nil .nil) (.node 52 (.ce (.int .i64)) .nil .nil)) (.node 55 (.ce (.int .i64)) (.node 54 (.ce (.int .i64)) .nil .nil) .nil))) (.node 65 (.agg [.int .i64, .any]) (.node 61 (.ce (.int .i64)) (.node 58 (.ce (.int .i64)) (.node 57 (.ce (.bool)) .nil .nil) (.node 60 (.ce (.one)) .nil .nil)) (.node 63 (.ce (.int .i64)) (.node 62 (.ce (.bool)) .nil .nil) (.node 64 (.ce (.int .i64)) .nil .nil))) (.node 71 (.agg [.int .i64, .int .i64]) (.node 68 (.ce (.one)) (.node 66 (.ce (.int .i64)) .nil .nil) (.node 69 (.ce (.int .i64)) .nil .nil)) (.node 73 (.ce (.bool)) (.node 72 (.ce (.int .i64)) .nil .nil) .nil)))))

noncomputable def D_ref_CheckGraph_b1 (pg : Prg) (x3 : Int) (xc0_0 : Int) (vc0_1 : PV) (gh : List GObj) : Option (IExit × St) := isC (degr vc0_1) (lenS (degr (degr vc0_1)) fun n1 => 
  br 19 (decide (x3 < (n1 : Int))) (isC (degr vc0_1) (
  idX 2 none (degr (degr vc0_1)) x3 fun p2 => 
  idX 1 (some 2) (degr p2) 0 fun p3 => 
  ldX [[(.int .i64 xc0_0), vc0_1]] gh false 1 (degr p3) fun v4 => unI .i64 v4 fun n5 => isC (degr vc0_1) (
  idX 2 none (degr (degr vc0_1)) x3 fun p6 => 
  idX 1 (some 2) (degr p6) 1 fun p7 => 
  ldX [[(.int .i64 xc0_0), vc0_1]] gh false 1 (degr p7) fun v8 => unI .i64 v8 fun n9 => 
  br 37 (decide (n9 ≤ n5)) (some (.ret, ⟨[(2, (.int .i64 4))], [], gh⟩)) (
  br 41 (decide (n5 < 2)) (some (.ret, ⟨[(2, (.int .i64 4))], [], gh⟩)) (
  br 51 (decide ((IntKind.i64.wrap (2 * (IntKind.i64.wrap ((IntKind.i64.wrap (1 + xc0_0)) + x3)))) ≤ n9)) (some (.ret, ⟨[(2, (.int .i64 4))], [], gh⟩)) (gd (decide ((2 : Int) ≠ 0)) (gd (decide ((2 : Int) ≠ 0)) (
  br 57 ((IntKind.i64.wrap (Int.tdiv n5 2)) == (IntKind.i64.wrap (Int.tdiv n9 2))) (some (.ret, ⟨[(2, (.int .i64 4))], [], gh⟩)) (some (.normal, ⟨[(1, (.ptr false 0 0)), (3, (.int .i64 (IntKind.i64.wrap (x3 + 1))))], [[(.int .i64 xc0_0), vc0_1]], gh⟩)))))))))) (some ((.exit 0), ⟨[(1, (.ptr false 0 0)), (3, (.int .i64 x3)), (19, (.bool (decide (x3 < (n1 : Int)))))], [[(.int .i64 xc0_0), vc0_1]], gh⟩)))

theorem D_ref_CheckGraph_b1_ok {pg : Prg} {gh : List GObj} {x3 : Int} {xc0_0 : Int} {vc0_1 : PV} {e : IExit} {s : St} (h : D_ref_CheckGraph_b1 pg x3 xc0_0 vc0_1 gh = some (e, s)) : runL pg f_ref_CheckGraph_b1 ⟨[(1, (.ptr false 0 0)), (3, (.int .i64 x3))], [[(.int .i64 xc0_0), vc0_1]], gh⟩ = some (e, s) :=
  runX_ok an_ref_CheckGraph (Eq.trans (by kernel_rfl) h)

noncomputable def D_ref_CheckGraph_b2 (pg : Prg) (x6 : Int) (xc0_0 : Int) (vc0_1 : PV) (gh : List GObj) : Option (IExit × St) := isC (degr vc0_1) (lenS (degr (degr vc0_1)) fun n1 => 
  br 62 (decide (x6 < (n1 : Int))) (isC (degr vc0_1) (
  idX 2 none (degr (degr vc0_1)) x6 fun p2 => 
  ldX [[(.int .i64 xc0_0), vc0_1]] gh true 2 (degr p2) fun v3 => unA 2 v3 fun c4 c5 => unI .i64 c4 fun n6 => unI .i64 c5 fun n7 => onK (degr1 (degr1 vc0_1)) (
  callR gh true (callL pg 51 [(.agg [(.int .i64 xc0_0), (degr1 (degr1 vc0_1))]), (.int .i64 x6), (.agg [(.int .i64 n6), (.int .i64 n7)])] gh) fun r8 gh9 => unI .i64 r8 fun n10 => 
  br 73 (decide (0 ≤ n10)) (some (.ret, ⟨[(2, (.int .i64 6))], [], gh9⟩)) (some (.normal, ⟨[(1, (.ptr false 0 0)), (6, (.int .i64 (IntKind.i64.wrap (x6 + 1))))], [[(.int .i64 xc0_0), vc0_1]], gh9⟩))))) (some ((.exit 2), ⟨[(1, (.ptr false 0 0)), (6, (.int .i64 x6)), (62, (.bool (decide (x6 < (n1 : Int)))))], [[(.int .i64 xc0_0), vc0_1]], gh⟩)))

theorem D_ref_CheckGraph_b2_ok {pg : Prg} {gh : List GObj} {x6 : Int} {xc0_0 : Int} {vc0_1 : PV} {e : IExit} {s : St} (h : D_ref_CheckGraph_b2 pg x6 xc0_0 vc0_1 gh = some (e, s)) : runL pg f_ref_CheckGraph_b2 ⟨[(1, (.ptr false 0 0)), (6, (.int .i64 x6))], [[(.int .i64 xc0_0), vc0_1]], gh⟩ = some (e, s) :=
  runX_ok an_ref_CheckGraph (Eq.trans (by kernel_rfl) h)

noncomputable def D_ref_CheckGraph_k2 (pg : Prg)  (gh : List GObj) : Option (IExit × St) := some (.ret, ⟨[(2, (.int .i64 0))], [], gh⟩)

theorem D_ref_CheckGraph_k2_ok {pg : Prg} {gh : List GObj}  {e : IExit} {s : St} (h : D_ref_CheckGraph_k2 pg  gh = some (e, s)) : runL pg f_ref_CheckGraph_k2 ⟨[], [], gh⟩ = some (e, s) :=
  runX_ok an_ref_CheckGraph (Eq.trans (by kernel_rfl) h)

noncomputable def D_ref_CheckGraph_k1 (pg : Prg) (xc0_0 : Int) (vc0_1 : PV) (gh : List GObj) : Option (IExit × St) := 
  kR (runL pg f_ref_CheckGraph_l2 ⟨[(1, (.ptr false 0 0)), (6, (.int .i64 0))], [[(.int .i64 xc0_0), vc0_1]], gh⟩) (fun e s => nx e s (fun e s => some (e, s)) fun s => kR (runL pg f_ref_CheckGraph_k2 s) (fun e s => some (e, s)))

theorem D_ref_CheckGraph_k1_ok {pg : Prg} {gh : List GObj} {xc0_0 : Int} {vc0_1 : PV} {e : IExit} {s : St} (h : D_ref_CheckGraph_k1 pg xc0_0 vc0_1 gh = some (e, s)) : runL pg f_ref_CheckGraph_k1 ⟨[(1, (.ptr false 0 0))], [[(.int .i64 xc0_0), vc0_1]], gh⟩ = some (e, s) :=
  runX_ok an_ref_CheckGraph (Eq.trans (by kernel_rfl) h)

noncomputable def D_ref_CheckGraph_0 (pg : Prg) (x0_0 : Int) (v0_1 : PV) (gh : List GObj) : Option (IExit × St) := onK (degr1 v0_1) (
  callR gh true (callL pg 50 [(.int .i64 x0_0), (.int .i64 0), (.int .i64 1000)] gh) fun r1 gh2 => unB r1 fun b3 => 
  br 10 (!b3) (some (.ret, ⟨[(2, (.int .i64 3))], [], gh2⟩)) (isC (degr (degr1 v0_1)) (lenS (degr (degr (degr1 v0_1))) fun n4 => 
  br 14 (decide (1000000 < (n4 : Int))) (some (.ret, ⟨[(2, (.int .i64 2))], [], gh2⟩)) (
  kR (runL pg f_ref_CheckGraph_l1 ⟨[(1, (.ptr false 0 0)), (3, (.int .i64 0))], [[(.int .i64 x0_0), (degr1 v0_1)]], gh2⟩) (fun e s => nx e s (fun e s => some (e, s)) fun s => kR (runL pg f_ref_CheckGraph_k1 s) (fun e s => some (e, s)))))))

theorem D_ref_CheckGraph_0_ok {pg : Prg} {gh : List GObj} {x0_0 : Int} {v0_1 : PV} {e : IExit} {s : St} (h : D_ref_CheckGraph_0 pg x0_0 v0_1 gh = some (e, s)) : runL pg f_ref_CheckGraph_0 ⟨[(0, (.agg [(.int .i64 x0_0), v0_1]))], [], gh⟩ = some (e, s) :=
  runX_ok an_ref_CheckGraph (Eq.trans (by kernel_rfl) h)

end Go.Lw
end

/-! What the code of function ref_AndAt comes to, piece by piece. Written by program (dprint.py). -/
section
set_option maxRecDepth 10000
set_option maxHeartbeats 4000000
namespace Go.Lw
open Go

def an_ref_AndAt : Tr := (.node 11 (.ce (.int .i64)) (.node 7 (.ce (.int .i64)) (.node 2 (.agg [.int .i64, .int .i64]) (.node 1 (.ce (.int .i64)) (.node 0 (.agg [.int .i64, .any]) .nil .nil) .nil) (.node 6 (.ce (.int .i64)) .nil .nil)) (.node 9 (.ce (.int .i64)) (.node 8 (.ce (.int .i64)) .nil .nil) (.node 10 (.ce (.bool)) .nil .nil))) (.node 17 (.agg [.int .i64, .int .i64]) (.node 14 (.ce (.one)) (.node 12 (.ce (.int .i64)) .nil .nil) (.node 15 (.ce (.int .i64)) .nil .nil)) (.node 19 (.ce (.bool)) (.node 18 (.agg [.int .i64, .int .i64]) .nil .nil) (.node 20 (.ce (.int .i64)) .nil .nil))))

noncomputable def D_ref_AndAt_b1 (pg : Prg) (x1 : Int) (x7 : Int) (xc0_0 : Int) (vc0_1 : PV) (xc1_0 : Int) (xc1_1 : Int) (gh : List GObj) : Option (IExit × St) := 
  br 10 (decide (x7 < x1)) (isC (degr vc0_1) (
  idX 2 none (degr (degr vc0_1)) x7 fun p1 => 
  ldX [[(.int .i64 xc0_0), vc0_1], [(.int .i64 xc1_0), (.int .i64 xc1_1)]] gh true 2 (degr p1) fun v2 => unA 2 v2 fun c3 c4 => unI .i64 c3 fun n5 => unI .i64 c4 fun n6 => ob (flatEq [false, false] [(.int .i64 n5), (.int .i64 n6)] [(.int .i64 xc1_0), (.int .i64 xc1_1)]) fun b7 => 
  br 19 b7 (some (.ret, ⟨[(6, (.int .i64 x7))], [], gh⟩)) (some (.normal, ⟨[(1, (.int .i64 x1)), (3, (.ptr false 0 0)), (5, (.ptr false 1 0)), (7, (.int .i64 (IntKind.i64.wrap (x7 + 1))))], [[(.int .i64 xc0_0), vc0_1], [(.int .i64 xc1_0), (.int .i64 xc1_1)]], gh⟩)))) (some ((.exit 0), ⟨[(1, (.int .i64 x1)), (3, (.ptr false 0 0)), (5, (.ptr false 1 0)), (7, (.int .i64 x7)), (10, (.bool (decide (x7 < x1))))], [[(.int .i64 xc0_0), vc0_1], [(.int .i64 xc1_0), (.int .i64 xc1_1)]], gh⟩))

theorem D_ref_AndAt_b1_ok {pg : Prg} {gh : List GObj} {x1 : Int} {x7 : Int} {xc0_0 : Int} {vc0_1 : PV} {xc1_0 : Int} {xc1_1 : Int} {e : IExit} {s : St} (h : D_ref_AndAt_b1 pg x1 x7 xc0_0 vc0_1 xc1_0 xc1_1 gh = some (e, s)) : runL pg f_ref_AndAt_b1 ⟨[(1, (.int .i64 x1)), (3, (.ptr false 0 0)), (5, (.ptr false 1 0)), (7, (.int .i64 x7))], [[(.int .i64 xc0_0), vc0_1], [(.int .i64 xc1_0), (.int .i64 xc1_1)]], gh⟩ = some (e, s) :=
  runX_ok an_ref_AndAt (Eq.trans (by kernel_rfl) h)

noncomputable def D_ref_AndAt_k1 (pg : Prg)  (gh : List GObj) : Option (IExit × St) := some (.ret, ⟨[(6, (.int .i64 (-1)))], [], gh⟩)

theorem D_ref_AndAt_k1_ok {pg : Prg} {gh : List GObj}  {e : IExit} {s : St} (h : D_ref_AndAt_k1 pg  gh = some (e, s)) : runL pg f_ref_AndAt_k1 ⟨[], [], gh⟩ = some (e, s) :=
  runX_ok an_ref_AndAt (Eq.trans (by kernel_rfl) h)

noncomputable def D_ref_AndAt_0 (pg : Prg) (x0_0 : Int) (v0_1 : PV) (x1 : Int) (x2_0 : Int) (x2_1 : Int) (gh : List GObj) : Option (IExit × St) := onK (degr1 v0_1) (
  kR (runL pg f_ref_AndAt_l1 ⟨[(1, (.int .i64 x1)), (3, (.ptr false 0 0)), (5, (.ptr false 1 0)), (7, (.int .i64 0))], [[(.int .i64 x0_0), (degr1 v0_1)], [(.int .i64 x2_0), (.int .i64 x2_1)]], gh⟩) (fun e s => nx e s (fun e s => some (e, s)) fun s => kR (runL pg f_ref_AndAt_k1 s) (fun e s => some (e, s))))

theorem D_ref_AndAt_0_ok {pg : Prg} {gh : List GObj} {x0_0 : Int} {v0_1 : PV} {x1 : Int} {x2_0 : Int} {x2_1 : Int} {e : IExit} {s : St} (h : D_ref_AndAt_0 pg x0_0 v0_1 x1 x2_0 x2_1 gh = some (e, s)) : runL pg f_ref_AndAt_0 ⟨[(0, (.agg [(.int .i64 x0_0), v0_1])), (1, (.int .i64 x1)), (2, (.agg [(.int .i64 x2_0), (.int .i64 x2_1)]))], [], gh⟩ = some (e, s) :=
  runX_ok an_ref_AndAt (Eq.trans (by kernel_rfl) h)

end Go.Lw
end

/-! What the code of function ref_IsLit comes to, piece by piece. Written by program (dprint.py). -/
section
set_option maxRecDepth 10000
set_option maxHeartbeats 4000000
namespace Go.Lw
open Go

def an_ref_IsLit : Tr := (.node 10 (.ce (.one)) (.node 5 (.ce (.int .i64)) (.node 1 (.ce (.int .i64)) (.node 0 (.agg [.int .i64, .any]) .nil .nil) (.node 4 (.ce (.bool)) .nil .nil)) (.node 8 (.ce (.int .i64)) (.node 7 (.ce (.int .i64)) .nil .nil) .nil)) (.node 13 (.ce (.int .i64)) (.node 12 (.ce (.int .i64)) (.node 11 (.ce (.int .i64)) .nil .nil) .nil) (.node 15 (.ce (.bool)) (.node 14 (.ce (.int .i64)) .nil .nil) .nil)))

noncomputable def D_ref_IsLit_0 (pg : Prg) (x0_0 : Int) (v0_1 : PV) (x1 : Int) (gh : List GObj) : Option (IExit × St) := onK (degr1 v0_1) (isC (degr (degr1 v0_1)) (lenS (degr (degr (degr1 v0_1))) fun n1 => 
  callR gh true (callL pg 50 [(.int .i64 x1), (.int .i64 0), (.int .i64 (IntKind.i64.wrap ((IntKind.i64.wrap (2 * (IntKind.i64.wrap ((IntKind.i64.wrap (1 + x0_0)) + (n1 : Int))))) - 1)))] gh) fun r2 gh3 => unB r2 fun b4 => some (.ret, ⟨[(4, (.bool b4))], [], gh3⟩)))

theorem D_ref_IsLit_0_ok {pg : Prg} {gh : List GObj} {x0_0 : Int} {v0_1 : PV} {x1 : Int} {e : IExit} {s : St} (h : D_ref_IsLit_0 pg x0_0 v0_1 x1 gh = some (e, s)) : runL pg f_ref_IsLit_0 ⟨[(0, (.agg [(.int .i64 x0_0), v0_1])), (1, (.int .i64 x1))], [], gh⟩ = some (e, s) :=
  runX_ok an_ref_IsLit (Eq.trans (by kernel_rfl) h)

end Go.Lw
end

/-! What must be of gates in any case; the document's graphs. -/
section
namespace Go.Lw
open Go

theorem gatesBegun_true (gh : List GObj) : callL pg 5 [] gh = some (B true, gh) := by
  have r0 : RA [] := fun x h => by cases h
  have r1 : RA [(2, 4)] := fun x h => by
    simp at h; subst h; exact ⟨by decide, by decide⟩
  have e1 : andE 2 [] 4 2 = ((2, [(2, 4)]), 6, 0) := by decide +kernel
  have e2 : evE 2 [(2, 4)] [true, true] [6, 7] = ([true, false], 0) := by decide +kernel
  have e3 : chkE 2 [(2, 4)] = 0 := by decide +kernel
  have hA : callL pg 1 [.agg [I 2, .sl false 2 []], I 4, I 2] gh = some (.tup [.agg [I 2, .sl false 2 [.agg [I 2, I 4]]], I 6, I 0], gh) := by
    have h := And_eq (ins := 2) (ands := []) (gh := gh) r0 4 2
    rw [e1] at h; exact h
  have hE : callL pg 9 [.agg [I 2, .sl false 2 [.agg [I 2, I 4]]], .sl false 1 [B true, B true], .sl false 1 [I 6, I 7]] gh = some (.tup [.sl false 1 [B true, B false], I 0], gh) := by
    have h := Eval_eq (ins := 2) (ands := [(2, 4)]) (v := [true, true]) (lits := [6, 7]) (gh := gh) r1 (by simp)
    rw [e2] at h; exact h
  have hC : callL pg 6 [.agg [I 2, .sl false 2 [.agg [I 2, I 4]]]] gh = some (I 0, gh) := by
    have h := Check_eq (ins := 2) (ands := [(2, 4)]) (gh := gh) r1
    rw [e3] at h; exact h
  have ew : IntKind.i64.wrap (6 + 1) = 7 := by decide
  refine callL_fn (fn := f_law_gatesBegun) (s := ⟨[(0, B true)], [], gh⟩) rfl rfl (D_law_gatesBegun_0_ok ?h1) ?r1
  case h1 =>
    simp [D_law_gatesBegun_0, hA]
    simp only [show IntKind.i64.wrap 7 = 7 by decide]
    simp [hE, hC]
  case r1 => simp [finish, results, f_law_gatesBegun, resOfs, resOf, resOk]

section
variable {ins : Int} {ands : List (Int × Int)} {gh : List GObj}

theorem flat2 (x : Int × Int) (a b : Int) : flatEq [false, false] [I x.1, I x.2] [I a, I b] = some (decide (x = (a, b))) := by
  obtain ⟨c, d⟩ := x
  by_cases h1 : c = a
  · by_cases h2 : d = b <;> simp [flatEq, sameCell, h1, h2]
  · simp [flatEq, sameCell, h1]

theorem AndAt_loop {a b : Int} {f : Nat} (hf : f ≤ ands.length) (hl : ands.length ≤ 1000000) : ∀ k i, i + k = f →
    runL pg f_ref_AndAt_l1 ⟨[(1, I f), (3, .ptr false 0 0), (5, .ptr false 1 0), (7, I (i : Int))], [[I ins, .sl false 2 (ands.map andV)], [I a, I b]], gh⟩ =
      match atA ((ands.take f).drop i) (a, b) with
      | some j => some (.ret, ⟨[(6, I ((i + j : Nat) : Int))], [], gh⟩)
      | none => some (.normal, ⟨[], [], gh⟩)
  | 0, i, h => by
    rw [List.drop_eq_nil_of_le (by simp; omega)]
    have hlt : ¬ (i : Int) < (f : Int) := by omega
    refine (lp_exit (s1 := ?s1) (D_ref_AndAt_b1_ok ?h1)).trans ?r1
    case h1 => simp only [D_ref_AndAt_b1, decide_eq_false hlt, br_false]; rfl
    case r1 => rfl
  | k + 1, i, h => by
    have hlt : i < ands.length := by omega
    have hltf : i < (ands.take f).length := by simp; omega
    have hltI : (i : Int) < (f : Int) := by omega
    have e2 : IntKind.i64.wrap ((i : Int) + 1) = ((i + 1 : Nat) : Int) := by rw [wrap_id (by omega) (by omega)]; omega
    have hg : (ands.map andV)[i]? = some (.agg [I ands[i].1, I ands[i].2]) := by simp [List.getElem?_eq_getElem hlt, andV]
    rw [List.drop_eq_getElem_cons hltf, atA, List.getElem_take]
    have hfl := flat2 ands[i] a b
    by_cases hx : (a, b) = ands[i]
    · rw [if_pos hx]
      rw [decide_eq_true hx.symm] at hfl
      refine lp_ret (D_ref_AndAt_b1_ok ?_)
      simp [D_ref_AndAt_b1, hltI, hg, hfl, -List.getElem?_map]
    · rw [if_neg hx]
      rw [decide_eq_false (fun h => hx h.symm)] at hfl
      refine lp_next (s1 := ⟨[(1, I f), (3, .ptr false 0 0), (5, .ptr false 1 0), (7, I ((i + 1 : Nat) : Int))], [[I ins, .sl false 2 (ands.map andV)], [I a, I b]], gh⟩) (D_ref_AndAt_b1_ok ?_) ?_
      · simp [D_ref_AndAt_b1, hltI, hg, hfl, e2, -List.getElem?_map]
      · refine (AndAt_loop hf hl k (i + 1) (by omega)).trans ?_
        cases atA ((ands.take f).drop (i + 1)) (a, b) with
        | none => rfl
        | some j => simp; omega

theorem AndAt_eq {a b : Int} {f : Nat} (hf : f ≤ ands.length) (hl : ands.length ≤ 1000000) : callL pg 51 [graphV ins ands, I f, .agg [I a, I b]] gh = some (I (match atA (ands.take f) (a, b) with | some j => (j : Int) | none => -1), gh) := by
  have hlp := AndAt_loop (ins := ins) (gh := gh) (a := a) (b := b) hf hl f 0 (by omega)
  rw [List.drop_zero] at hlp
  simp only [Nat.zero_add, Int.natCast_zero] at hlp
  cases hat : atA (ands.take f) (a, b) with
  | some j =>
    rw [hat] at hlp
    refine callL_fn (fn := f_ref_AndAt) (s := ?s1) rfl rfl (D_ref_AndAt_0_ok ?h1) ?r1
    case h1 => simp [D_ref_AndAt_0, hlp]; rfl
    case r1 => simp [finish, results, f_ref_AndAt, resOfs, resOf, resOk]
  | none =>
    rw [hat] at hlp
    have hk := D_ref_AndAt_k1_ok (pg := pg) (gh := gh) (e := .ret) (s := ⟨[(6, I (-1))], [], gh⟩) rfl
    refine callL_fn (fn := f_ref_AndAt) (s := ?s2) rfl rfl (D_ref_AndAt_0_ok ?h2) ?r2
    case h2 => simp [D_ref_AndAt_0, hlp, hk]; rfl
    case r2 => simp [finish, results, f_ref_AndAt, resOfs, resOf, resOk]

theorem CheckG_b1 (hi : 0 ≤ ins ∧ ins ≤ 1000) (hl : ands.length ≤ 1000000) {i : Nat} (hlt : i < ands.length) (hr : -9223372036854775808 ≤ ands[i].1 ∧ ands[i].1 ≤ 9223372036854775807) (hr2 : -9223372036854775808 ≤ ands[i].2 ∧ ands[i].2 ≤ 9223372036854775807) :
    D_ref_CheckGraph_b1 pg i ins (.sl false 2 (ands.map andV)) gh =
      if badA ins i ands[i] then some (.ret, ⟨[(2, I 4)], [], gh⟩)
      else some (.normal, ⟨[(1, .ptr false 0 0), (3, I ((i + 1 : Nat) : Int))], [[I ins, .sl false 2 (ands.map andV)]], gh⟩) := by
  have e2 : IntKind.i64.wrap ((i : Int) + 1) = ((i + 1 : Nat) : Int) := by rw [wrap_id (by omega) (by omega)]; omega
  have hx : (ands.map andV)[i]? = some (.agg [I ands[i].1, I ands[i].2]) := by simp [List.getElem?_eq_getElem hlt, andV]
  generalize hy : ands[i] = x at *
  obtain ⟨a, b⟩ := x
  simp only at hr hr2 hx
  have eN : IntKind.i64.wrap (2 * IntKind.i64.wrap (IntKind.i64.wrap (1 + ins) + (i : Int))) = 2 * (1 + ins + i) := by
    rw [wrap_id (n := 1 + ins) (by omega) (by omega), wrap_id (n := 1 + ins + i) (by omega) (by omega), wrap_id (by omega) (by omega)]
  have hltI : (i : Int) < (ands.length : Int) := by omega
  by_cases h1 : b ≤ a
  · rw [if_pos (show badA ins i (a, b) from .inl h1)]
    simp [D_ref_CheckGraph_b1, hlt, hx, hy, andV_def, h1, -List.getElem?_map]
  by_cases h2 : a < 2
  · rw [if_pos (show badA ins i (a, b) from .inr (.inl h2))]
    simp [D_ref_CheckGraph_b1, hlt, hx, hy, andV_def, h1, h2, -List.getElem?_map]
  have ea : IntKind.i64.wrap (Int.tdiv a 2) = a / 2 := by rw [tdiv2 (by omega), wrap_id (by omega) (by omega)]
  have eb : IntKind.i64.wrap (Int.tdiv b 2) = b / 2 := by rw [tdiv2 (by omega), wrap_id (by omega) (by omega)]
  by_cases h3 : 2 * (1 + ins + i) ≤ b
  · rw [if_pos (show badA ins i (a, b) from .inr (.inr (.inl h3)))]
    simp [D_ref_CheckGraph_b1, hlt, hx, hy, andV_def, h1, h2, eN, h3, -List.getElem?_map]
  by_cases h4 : a / 2 = b / 2
  · rw [if_pos (show badA ins i (a, b) from .inr (.inr (.inr h4)))]
    simp [D_ref_CheckGraph_b1, hlt, hx, hy, andV_def, h1, h2, eN, ea, eb, h3, h4, -List.getElem?_map]
  · rw [if_neg (show ¬ badA ins i (a, b) by rintro (h | h | h | h) <;> contradiction)]
    simp [D_ref_CheckGraph_b1, hlt, hx, hy, andV_def, h1, h2, eN, ea, eb, h3, h4, e2, -List.getElem?_map]

theorem CheckG_loop1 (hi : 0 ≤ ins ∧ ins ≤ 1000) (hl : ands.length ≤ 1000000) (hr : RA ands) : ∀ k i, i + k = ands.length →
    runL pg f_ref_CheckGraph_l1 ⟨[(1, .ptr false 0 0), (3, I (i : Int))], [[I ins, .sl false 2 (ands.map andV)]], gh⟩ =
    if okA ins i (ands.drop i) then some (.normal, ⟨[(1, .ptr false 0 0)], [[I ins, .sl false 2 (ands.map andV)]], gh⟩) else some (.ret, ⟨[(2, I 4)], [], gh⟩)
  | 0, i, h => by
    rw [List.drop_eq_nil_of_le (by omega), okA, if_pos rfl]
    have hlt : ¬ i < ands.length := by omega
    refine (lp_exit (s1 := ?s1) (D_ref_CheckGraph_b1_ok ?h1)).trans ?r1
    case h1 => simp [D_ref_CheckGraph_b1, hlt]; rfl
    case r1 => simp [keep]
  | k + 1, i, h => by
    have hlt : i < ands.length := by omega
    have hx := hr ands[i] (List.getElem_mem hlt)
    have hb := CheckG_b1 (gh := gh) hi hl hlt hx.1 hx.2
    rw [List.drop_eq_getElem_cons hlt, okA]
    by_cases hbad : badA ins i ands[i]
    · rw [if_pos hbad] at hb ⊢
      exact lp_ret (D_ref_CheckGraph_b1_ok hb)
    · rw [if_neg hbad] at hb ⊢
      exact lp_next (D_ref_CheckGraph_b1_ok hb) (CheckG_loop1 hi hl hr k (i + 1) (by omega))

theorem CheckG_loop2 (hl : ands.length ≤ 1000000) : ∀ k i, i + k = ands.length → (ands.take i).Nodup →
    runL pg f_ref_CheckGraph_l2 ⟨[(1, .ptr false 0 0), (6, I (i : Int))], [[I ins, .sl false 2 (ands.map andV)]], gh⟩ =
    if ands.Nodup then some (.normal, ⟨[], [], gh⟩) else some (.ret, ⟨[(2, I 6)], [], gh⟩)
  | 0, i, h, hn => by
    rw [List.take_of_length_le (by omega)] at hn
    rw [if_pos hn]
    have hlt : ¬ i < ands.length := by omega
    refine (lp_exit (s1 := ?s1) (D_ref_CheckGraph_b2_ok ?h1)).trans ?r1
    case h1 => simp [D_ref_CheckGraph_b2, hlt]; rfl
    case r1 => simp [keep]
  | k + 1, i, h, hn => by
    have hlt : i < ands.length := by omega
    have e2 : IntKind.i64.wrap ((i : Int) + 1) = ((i + 1 : Nat) : Int) := by rw [wrap_id (by omega) (by omega)]; omega
    have hx : (ands.map andV)[i]? = some (.agg [I ands[i].1, I ands[i].2]) := by simp [List.getElem?_eq_getElem hlt, andV]
    have hat := AndAt_eq (ins := ins) (gh := gh) (a := ands[i].1) (b := ands[i].2) (f := i) (by omega) hl
    unfold graphV at hat
    have htake : ands.take (i + 1) = ands.take i ++ [ands[i]] := by rw [List.take_add_one, List.getElem?_eq_getElem hlt]; rfl
    cases hf : atA (ands.take i) (ands[i].1, ands[i].2) with
    | some j =>
      rw [hf] at hat
      have hmem : ands[i] ∈ ands.take i := by
        apply Classical.byContradiction
        intro hm
        rw [atA_none.2 (show (ands[i].1, ands[i].2) ∉ ands.take i from hm)] at hf; cases hf
      have hnd : ¬ ands.Nodup := by
        intro hnd
        have := hnd.sublist (List.take_sublist (i + 1) ands)
        rw [htake, List.nodup_append] at this
        exact this.2.2 _ hmem _ (by simp) rfl
      rw [if_neg hnd]
      have hj : (0 : Int) ≤ (j : Int) := by omega
      refine lp_ret (D_ref_CheckGraph_b2_ok ?_)
      simp [D_ref_CheckGraph_b2, hlt, hx, andV_def, hat, -List.getElem?_map]
    | none =>
      rw [hf] at hat
      have hmem : ands[i] ∉ ands.take i := atA_none.1 hf
      refine lp_next (s1 := ⟨[(1, .ptr false 0 0), (6, I ((i + 1 : Nat) : Int))], [[I ins, .sl false 2 (ands.map andV)]], gh⟩) (D_ref_CheckGraph_b2_ok ?_) (CheckG_loop2 hl k (i + 1) (by omega) ?_)
      · simp [D_ref_CheckGraph_b2, hlt, hx, andV_def, hat, e2, -List.getElem?_map]
      · rw [htake, List.nodup_append]
        exact ⟨hn, by simp, fun x hx y hy hxy => by simp at hy; subst hy; subst hxy; exact hmem hx⟩

theorem CheckG_eq (hr : RA ands) : callL pg 2 [graphV ins ands] gh = some (I (chkE ins ands), gh) := by
  by_cases hi : 0 ≤ ins ∧ ins ≤ 1000
  · by_cases h3 : 1000000 < ands.length
    · have h3' : (1000000 : Int) < (ands.length : Int) := by omega
      have e : chkE ins ands = 2 := by unfold chkE; rw [if_neg (fun h => h hi), if_pos h3]
      refine callL_fn (fn := f_ref_CheckGraph) (s := ?s3) rfl rfl (D_ref_CheckGraph_0_ok ?h3) ?r3
      case h3 => simp [D_ref_CheckGraph_0, between_eq, hi, h3']; rfl
      case r3 => simp [finish, results, f_ref_CheckGraph, resOfs, resOf, resOk, e]
    · have h3' : ¬ (1000000 : Int) < (ands.length : Int) := by omega
      have g1 := CheckG_loop1 (gh := gh) hi (by omega) hr ands.length 0 (by omega)
      rw [List.drop_zero] at g1
      simp only [Int.natCast_zero] at g1
      cases hok : okA ins 0 ands with
      | false =>
        rw [hok] at g1
        have e : chkE ins ands = 4 := by unfold chkE; rw [if_neg (fun h => h hi), if_neg h3, hok]; rfl
        refine callL_fn (fn := f_ref_CheckGraph) (s := ?s4) rfl rfl (D_ref_CheckGraph_0_ok ?h4) ?r4
        case h4 => simp [D_ref_CheckGraph_0, between_eq, hi, h3', g1]; rfl
        case r4 => simp [finish, results, f_ref_CheckGraph, resOfs, resOf, resOk, e]
      | true =>
        rw [hok, if_pos rfl] at g1
        have g2 := CheckG_loop2 (ins := ins) (gh := gh) (show ands.length ≤ 1000000 by omega) ands.length 0 (by omega) (by simp)
        simp only [Int.natCast_zero] at g2
        have hk2 := D_ref_CheckGraph_k2_ok (pg := pg) (gh := gh) (e := .ret) (s := ⟨[(2, I 0)], [], gh⟩) rfl
        by_cases hnd : ands.Nodup
        · rw [if_pos hnd] at g2
          have e : chkE ins ands = 0 := by unfold chkE; rw [if_neg (fun h => h hi), if_neg h3, hok, if_pos rfl, if_pos hnd]
          have hk1 := D_ref_CheckGraph_k1_ok (pg := pg) (gh := gh) (xc0_0 := ins) (vc0_1 := .sl false 2 (ands.map andV)) (e := .ret) (s := ⟨[(2, I 0)], [], gh⟩) (by simp [D_ref_CheckGraph_k1, g2, hk2])
          refine callL_fn (fn := f_ref_CheckGraph) (s := ?s5) rfl rfl (D_ref_CheckGraph_0_ok ?h5) ?r5
          case h5 => simp [D_ref_CheckGraph_0, between_eq, hi, h3', g1, hk1]; rfl
          case r5 => simp [finish, results, f_ref_CheckGraph, resOfs, resOf, resOk, e]
        · rw [if_neg hnd] at g2
          have e : chkE ins ands = 6 := by unfold chkE; rw [if_neg (fun h => h hi), if_neg h3, hok, if_pos rfl, if_neg hnd]
          have hk1 := D_ref_CheckGraph_k1_ok (pg := pg) (gh := gh) (xc0_0 := ins) (vc0_1 := .sl false 2 (ands.map andV)) (e := .ret) (s := ⟨[(2, I 6)], [], gh⟩) (by simp [D_ref_CheckGraph_k1, g2])
          refine callL_fn (fn := f_ref_CheckGraph) (s := ?s6) rfl rfl (D_ref_CheckGraph_0_ok ?h6) ?r6
          case h6 => simp [D_ref_CheckGraph_0, between_eq, hi, h3', g1, hk1]; rfl
          case r6 => simp [finish, results, f_ref_CheckGraph, resOfs, resOf, resOk, e]
  · have e : chkE ins ands = 3 := by unfold chkE; rw [if_pos hi]
    refine callL_fn (fn := f_ref_CheckGraph) (s := ?s1) rfl rfl (D_ref_CheckGraph_0_ok ?h1) ?r1
    case h1 => simp [D_ref_CheckGraph_0, between_eq, hi]; rfl
    case r1 => simp [finish, results, f_ref_CheckGraph, resOfs, resOf, resOk, e]

theorem IsLit_eq (hi : 0 ≤ ins ∧ ins ≤ 1000) (hl : ands.length ≤ 1000000) (n : Int) : callL pg 3 [graphV ins ands, I n] gh = some (B (isLit ins ands n), gh) := by
  have ew : IntKind.i64.wrap (IntKind.i64.wrap (2 * IntKind.i64.wrap (IntKind.i64.wrap (1 + ins) + (ands.length : Int))) - 1) = 2 * nodesOf ins ands - 1 := by
    unfold nodesOf
    rw [wrap_id (n := 1 + ins) (by omega) (by omega), wrap_id (n := 1 + ins + ands.length) (by omega) (by omega), wrap_id (n := 2 * (1 + ins + ands.length)) (by omega) (by omega), wrap_id (by omega) (by omega)]
  have e : (decide (0 ≤ n ∧ n ≤ 2 * nodesOf ins ands - 1)) = isLit ins ands n := by
    unfold isLit
    rw [Bool.eq_iff_iff, decide_eq_true_eq, decide_eq_true_eq]; omega
  have hb := between_eq n 0 (2 * nodesOf ins ands - 1) gh
  rw [e] at hb
  refine callL_fn (fn := f_ref_IsLit) (s := ⟨[(4, B (isLit ins ands n))], [], gh⟩) rfl rfl (D_ref_IsLit_0_ok ?h1) ?r1
  case h1 => simp [D_ref_IsLit_0, ew, hb]
  case r1 => simp [finish, results, f_ref_IsLit, resOfs, resOf, resOk]

end
end Go.Lw
end

/-! What the code of function ref_AndOf comes to, piece by piece. Written by program (dprint.py). -/
section
set_option maxRecDepth 10000
set_option maxHeartbeats 4000000
namespace Go.Lw
open Go

def an_ref_AndOf : Tr := (.node 33 (.ce (.int .i64)) (.node 18 (.ce (.int .i64)) (.node 11 (.ce (.bool)) (.node 7 (.ce (.int .i64)) (.node 1 (.ce (.int .i64)) (.node 0 (.agg [.int .i64, .any]) .nil .nil) (.node 2 (.ce (.int .i64)) .nil .nil)) (.node 9 (.ce (.int .i64)) (.node 8 (.ce (.int .i64)) .nil .nil) (.node 10 (.ce (.int .i64)) .nil .nil))) (.node 15 (.ce (.bool)) (.node 13 (.ce (.int .i64)) (.node 12 (.ce (.int .i64)) .nil .nil) (.node 14 (.ce (.int .i64)) .nil .nil)) (.node 17 (.ce (.int .i64)) (.node 16 (.ce (.bool)) .nil .nil) .nil))) (.node 26 (.ce (.bool)) (.node 22 (.ce (.bool)) (.node 20 (.ce (.int .i64)) (.node 19 (.ce (.int .i64)) .nil .nil) (.node 21 (.ce (.bool)) .nil .nil)) (.node 24 (.ce (.int .i64)) (.node 23 (.ce (.int .i64)) .nil .nil) (.node 25 (.ce (.bool)) .nil .nil))) (.node 30 (.ce (.bool)) (.node 28 (.agg [.int .i64, .any]) (.node 27 (.ce (.bool)) .nil .nil) (.node 29 (.ce (.int .i64)) .nil .nil)) (.node 32 (.ce (.int .i64)) (.node 31 (.ce (.bool)) .nil .nil) .nil)))) (.node 50 (.ce (.int .i64)) (.node 42 (.ce (.int .i64)) (.node 37 (.ce (.int .i64)) (.node 35 (.ce (.bool)) (.node 34 (.ce (.bool)) .nil .nil) (.node 36 (.agg [.int .i64, .any]) .nil .nil)) (.node 40 (.ce (.one)) (.node 38 (.agg [.int .i64, .any]) .nil .nil) (.node 41 (.ce (.int .i64)) .nil .nil))) (.node 46 (.ce (.int .i64)) (.node 44 (.agg [.int .i64, .int .i64]) (.node 43 (.ce (.int .i64)) .nil .nil) (.node 45 (.ce (.int .i64)) .nil .nil)) (.node 49 (.ce (.one)) (.node 47 (.ce (.bool)) .nil .nil) .nil))) (.node 59 (.ce (.one)) (.node 55 (.ce (.int .i64)) (.node 53 (.ce (.one)) (.node 51 (.ce (.one)) .nil .nil) (.node 54 (.ce (.one)) .nil .nil)) (.node 57 (.agg [.int .i64, .int .i64]) (.node 56 (.ce (.int .i64)) .nil .nil) (.node 58 (.ce (.one)) .nil .nil))) (.node 65 (.ce (.int .i64)) (.node 63 (.ce (.int .i64)) (.node 61 (.agg [.int .i64, .any]) .nil .nil) (.node 64 (.ce (.int .i64)) .nil .nil)) (.node 67 (.ce (.int .i64)) (.node 66 (.ce (.int .i64)) .nil .nil) .nil)))))

noncomputable def D_ref_AndOf_k2 (pg : Prg) (x8 : Int) (xc0_0 : Int) (vc0_1 : PV) (xc1_0 : Int) (vc1_1 : PV) (gh : List GObj) : Option (IExit × St) := onK (degr1 vc0_1) (some (.ret, ⟨[(6, (.ptr false 1 0)), (7, (.int .i64 (IntKind.i64.wrap (2 * (IntKind.i64.wrap ((IntKind.i64.wrap (1 + xc0_0)) + x8))))))], [[(.int .i64 xc0_0), vc0_1], [(.int .i64 xc0_0), (degr1 vc0_1)]], gh⟩))

theorem D_ref_AndOf_k2_ok {pg : Prg} {gh : List GObj} {x8 : Int} {xc0_0 : Int} {vc0_1 : PV} {xc1_0 : Int} {vc1_1 : PV} {e : IExit} {s : St} (h : D_ref_AndOf_k2 pg x8 xc0_0 vc0_1 xc1_0 vc1_1 gh = some (e, s)) : runL pg f_ref_AndOf_k2 ⟨[(3, (.ptr false 0 0)), (6, (.ptr false 1 0)), (8, (.int .i64 x8))], [[(.int .i64 xc0_0), vc0_1], [(.int .i64 xc1_0), vc1_1]], gh⟩ = some (e, s) :=
  runX_ok an_ref_AndOf (Eq.trans (by kernel_rfl) h)

noncomputable def D_ref_AndOf_k1 (pg : Prg) (x1 : Int) (x2 : Int) (xc0_0 : Int) (vc0_1 : PV) (xc1_0 : Int) (vc1_1 : PV) (gh : List GObj) : Option (IExit × St) := 
  br 16 (x1 == 0) (onK (degr1 vc0_1) (some (.ret, ⟨[(6, (.ptr false 1 0)), (7, (.int .i64 0))], [[(.int .i64 xc0_0), vc0_1], [(.int .i64 xc0_0), (degr1 vc0_1)]], gh⟩))) (gd (decide ((2 : Int) ≠ 0)) (gd (decide ((2 : Int) ≠ 0)) (
  br 22 ((IntKind.i64.wrap (Int.tdiv x1 2)) == (IntKind.i64.wrap (Int.tdiv x2 2))) (
  br 27 (x1 != x2) (onK (degr1 vc0_1) (some (.ret, ⟨[(6, (.ptr false 1 0)), (7, (.int .i64 0))], [[(.int .i64 xc0_0), vc0_1], [(.int .i64 xc0_0), (degr1 vc0_1)]], gh⟩))) (
  br 31 (x1 == 1) (onK (degr1 vc0_1) (some (.ret, ⟨[(6, (.ptr false 1 0)), (7, (.int .i64 x2))], [[(.int .i64 xc0_0), vc0_1], [(.int .i64 xc0_0), (degr1 vc0_1)]], gh⟩))) (
  br 35 (x1 == x2) (onK (degr1 vc0_1) (some (.ret, ⟨[(6, (.ptr false 1 0)), (7, (.int .i64 x2))], [[(.int .i64 xc0_0), vc0_1], [(.int .i64 xc0_0), (degr1 vc0_1)]], gh⟩))) (isC (degr vc0_1) (lenS (degr (degr vc0_1)) fun n1 => onK (degr1 (degr1 vc0_1)) (
  callR gh true (callL pg 51 [(.agg [(.int .i64 xc0_0), (degr1 (degr1 vc0_1))]), (.int .i64 (n1 : Int)), (.agg [(.int .i64 x1), (.int .i64 x2)])] gh) fun r2 gh3 => unI .i64 r2 fun n4 => 
  br 47 (decide (n4 < 0)) (isC (degr vc0_1) (lenS (degr (degr vc0_1)) fun n5 => isC (degr vc0_1) (
  apX 2 16 (.sl true 2 []) (degr (degr vc0_1)) fun l6 => 
  apX 2 16 (.sl true 2 l6) (.sl false 2 [(.agg [(.int .i64 x1), (.int .i64 x2)])]) fun l7 => 
  kR (runL pg f_ref_AndOf_k2 ⟨[(3, (.ptr false 0 0)), (6, (.ptr false 1 0)), (8, (.int .i64 (n5 : Int)))], [[(.int .i64 xc0_0), (.sl true 2 l7)], [(.int .i64 xc1_0), vc1_1]], gh3⟩) (fun e s => some (e, s))))) (
  kR (runL pg f_ref_AndOf_k2 ⟨[(3, (.ptr false 0 0)), (6, (.ptr false 1 0)), (8, (.int .i64 n4))], [[(.int .i64 xc0_0), vc0_1], [(.int .i64 xc1_0), vc1_1]], gh3⟩) (fun e s => some (e, s))))))))) (
  br 31 (x1 == 1) (onK (degr1 vc0_1) (some (.ret, ⟨[(6, (.ptr false 1 0)), (7, (.int .i64 x2))], [[(.int .i64 xc0_0), vc0_1], [(.int .i64 xc0_0), (degr1 vc0_1)]], gh⟩))) (
  br 35 (x1 == x2) (onK (degr1 vc0_1) (some (.ret, ⟨[(6, (.ptr false 1 0)), (7, (.int .i64 x2))], [[(.int .i64 xc0_0), vc0_1], [(.int .i64 xc0_0), (degr1 vc0_1)]], gh⟩))) (isC (degr vc0_1) (lenS (degr (degr vc0_1)) fun n8 => onK (degr1 (degr1 vc0_1)) (
  callR gh true (callL pg 51 [(.agg [(.int .i64 xc0_0), (degr1 (degr1 vc0_1))]), (.int .i64 (n8 : Int)), (.agg [(.int .i64 x1), (.int .i64 x2)])] gh) fun r9 gh10 => unI .i64 r9 fun n11 => 
  br 47 (decide (n11 < 0)) (isC (degr vc0_1) (lenS (degr (degr vc0_1)) fun n12 => isC (degr vc0_1) (
  apX 2 16 (.sl true 2 []) (degr (degr vc0_1)) fun l13 => 
  apX 2 16 (.sl true 2 l13) (.sl false 2 [(.agg [(.int .i64 x1), (.int .i64 x2)])]) fun l14 => 
  kR (runL pg f_ref_AndOf_k2 ⟨[(3, (.ptr false 0 0)), (6, (.ptr false 1 0)), (8, (.int .i64 (n12 : Int)))], [[(.int .i64 xc0_0), (.sl true 2 l14)], [(.int .i64 xc1_0), vc1_1]], gh10⟩) (fun e s => some (e, s))))) (
  kR (runL pg f_ref_AndOf_k2 ⟨[(3, (.ptr false 0 0)), (6, (.ptr false 1 0)), (8, (.int .i64 n11))], [[(.int .i64 xc0_0), vc0_1], [(.int .i64 xc1_0), vc1_1]], gh10⟩) (fun e s => some (e, s)))))))))))

theorem D_ref_AndOf_k1_ok {pg : Prg} {gh : List GObj} {x1 : Int} {x2 : Int} {xc0_0 : Int} {vc0_1 : PV} {xc1_0 : Int} {vc1_1 : PV} {e : IExit} {s : St} (h : D_ref_AndOf_k1 pg x1 x2 xc0_0 vc0_1 xc1_0 vc1_1 gh = some (e, s)) : runL pg f_ref_AndOf_k1 ⟨[(1, (.int .i64 x1)), (2, (.int .i64 x2)), (3, (.ptr false 0 0)), (6, (.ptr false 1 0))], [[(.int .i64 xc0_0), vc0_1], [(.int .i64 xc1_0), vc1_1]], gh⟩ = some (e, s) :=
  runX_ok an_ref_AndOf (Eq.trans (by kernel_rfl) h)

noncomputable def D_ref_AndOf_0 (pg : Prg) (x0_0 : Int) (v0_1 : PV) (x1 : Int) (x2 : Int) (gh : List GObj) : Option (IExit × St) := onK (degr1 v0_1) (
  br 11 (decide (x2 < x1)) (
  kR (runL pg f_ref_AndOf_k1 ⟨[(1, (.int .i64 x2)), (2, (.int .i64 x1)), (3, (.ptr false 0 0)), (6, (.ptr false 1 0))], [[(.int .i64 x0_0), (degr1 v0_1)], [(.int .i64 0), (.sl true 2 [])]], gh⟩) (fun e s => some (e, s))) (
  kR (runL pg f_ref_AndOf_k1 ⟨[(1, (.int .i64 x1)), (2, (.int .i64 x2)), (3, (.ptr false 0 0)), (6, (.ptr false 1 0))], [[(.int .i64 x0_0), (degr1 v0_1)], [(.int .i64 0), (.sl true 2 [])]], gh⟩) (fun e s => some (e, s))))

theorem D_ref_AndOf_0_ok {pg : Prg} {gh : List GObj} {x0_0 : Int} {v0_1 : PV} {x1 : Int} {x2 : Int} {e : IExit} {s : St} (h : D_ref_AndOf_0 pg x0_0 v0_1 x1 x2 gh = some (e, s)) : runL pg f_ref_AndOf_0 ⟨[(0, (.agg [(.int .i64 x0_0), v0_1])), (1, (.int .i64 x1)), (2, (.int .i64 x2))], [], gh⟩ = some (e, s) :=
  runX_ok an_ref_AndOf (Eq.trans (by kernel_rfl) h)

end Go.Lw
end

/-! What the code of function ref_SameGraph comes to, piece by piece. Written by program (dprint.py). -/
section
set_option maxRecDepth 10000
set_option maxHeartbeats 4000000
namespace Go.Lw
open Go

def an_ref_SameGraph : Tr := (.node 19 (.ce (.bool)) (.node 10 (.ce (.bool)) (.node 5 (.ce (.int .i64)) (.node 1 (.agg [.int .i64, .any]) (.node 0 (.agg [.int .i64, .any]) .nil .nil) (.node 4 (.ce (.bool)) .nil .nil)) (.node 9 (.ce (.int .i64)) (.node 7 (.ce (.int .i64)) .nil .nil) .nil)) (.node 16 (.ce (.one)) (.node 13 (.ce (.one)) (.node 11 (.ce (.bool)) .nil .nil) (.node 14 (.ce (.int .i64)) .nil .nil)) (.node 18 (.ce (.bool)) (.node 17 (.ce (.int .i64)) .nil .nil) .nil))) (.node 28 (.ce (.one)) (.node 24 (.ce (.bool)) (.node 22 (.ce (.one)) (.node 20 (.ce (.int .i64)) .nil .nil) (.node 23 (.ce (.int .i64)) .nil .nil)) (.node 26 (.ce (.int .i64)) (.node 25 (.ce (.int .i64)) .nil .nil) .nil)) (.node 34 (.ce (.int .i64)) (.node 31 (.agg [.int .i64, .int .i64]) (.node 29 (.ce (.int .i64)) .nil .nil) (.node 33 (.ce (.one)) .nil .nil)) (.node 37 (.ce (.bool)) (.node 36 (.agg [.int .i64, .int .i64]) .nil .nil) .nil))))

noncomputable def D_ref_SameGraph_b1 (pg : Prg) (x5 : Int) (xc0_0 : Int) (vc0_1 : PV) (xc1_0 : Int) (vc1_1 : PV) (gh : List GObj) : Option (IExit × St) := isC (degr vc0_1) (lenS (degr (degr vc0_1)) fun n1 => 
  br 24 (decide (x5 < (n1 : Int))) (isC (degr vc0_1) (
  idX 2 none (degr (degr vc0_1)) x5 fun p2 => 
  ldX [[(.int .i64 xc0_0), vc0_1], [(.int .i64 xc1_0), vc1_1]] gh true 2 (degr p2) fun v3 => unA 2 v3 fun c4 c5 => unI .i64 c4 fun n6 => unI .i64 c5 fun n7 => isC (degr vc1_1) (
  idX 2 none (degr (degr vc1_1)) x5 fun p8 => 
  ldX [[(.int .i64 xc0_0), vc0_1], [(.int .i64 xc1_0), vc1_1]] gh true 2 (degr p8) fun v9 => unA 2 v9 fun c10 c11 => unI .i64 c10 fun n12 => unI .i64 c11 fun n13 => ob (flatEq [false, false] [(.int .i64 n6), (.int .i64 n7)] [(.int .i64 n12), (.int .i64 n13)]) fun b14 => 
  br 37 (!b14) (some (.ret, ⟨[(4, (.bool false))], [], gh⟩)) (some (.normal, ⟨[(2, (.ptr false 0 0)), (3, (.ptr false 1 0)), (5, (.int .i64 (IntKind.i64.wrap (x5 + 1))))], [[(.int .i64 xc0_0), vc0_1], [(.int .i64 xc1_0), vc1_1]], gh⟩))))) (some ((.exit 0), ⟨[(2, (.ptr false 0 0)), (3, (.ptr false 1 0)), (5, (.int .i64 x5)), (24, (.bool (decide (x5 < (n1 : Int)))))], [[(.int .i64 xc0_0), vc0_1], [(.int .i64 xc1_0), vc1_1]], gh⟩)))

theorem D_ref_SameGraph_b1_ok {pg : Prg} {gh : List GObj} {x5 : Int} {xc0_0 : Int} {vc0_1 : PV} {xc1_0 : Int} {vc1_1 : PV} {e : IExit} {s : St} (h : D_ref_SameGraph_b1 pg x5 xc0_0 vc0_1 xc1_0 vc1_1 gh = some (e, s)) : runL pg f_ref_SameGraph_b1 ⟨[(2, (.ptr false 0 0)), (3, (.ptr false 1 0)), (5, (.int .i64 x5))], [[(.int .i64 xc0_0), vc0_1], [(.int .i64 xc1_0), vc1_1]], gh⟩ = some (e, s) :=
  runX_ok an_ref_SameGraph (Eq.trans (by kernel_rfl) h)

noncomputable def D_ref_SameGraph_k1 (pg : Prg)  (gh : List GObj) : Option (IExit × St) := some (.ret, ⟨[(4, (.bool true))], [], gh⟩)

theorem D_ref_SameGraph_k1_ok {pg : Prg} {gh : List GObj}  {e : IExit} {s : St} (h : D_ref_SameGraph_k1 pg  gh = some (e, s)) : runL pg f_ref_SameGraph_k1 ⟨[], [], gh⟩ = some (e, s) :=
  runX_ok an_ref_SameGraph (Eq.trans (by kernel_rfl) h)

noncomputable def D_ref_SameGraph_0 (pg : Prg) (x0_0 : Int) (v0_1 : PV) (x1_0 : Int) (v1_1 : PV) (gh : List GObj) : Option (IExit × St) := onK (degr1 v0_1) (onK (degr1 v1_1) (
  br 11 (x0_0 != x1_0) (some (.ret, ⟨[(4, (.bool false))], [], gh⟩)) (isC (degr (degr1 v0_1)) (lenS (degr (degr (degr1 v0_1))) fun n1 => isC (degr (degr1 v1_1)) (lenS (degr (degr (degr1 v1_1))) fun n2 => 
  br 19 ((n1 : Int) != (n2 : Int)) (some (.ret, ⟨[(4, (.bool false))], [], gh⟩)) (
  kR (runL pg f_ref_SameGraph_l1 ⟨[(2, (.ptr false 0 0)), (3, (.ptr false 1 0)), (5, (.int .i64 0))], [[(.int .i64 x0_0), (degr1 v0_1)], [(.int .i64 x1_0), (degr1 v1_1)]], gh⟩) (fun e s => nx e s (fun e s => some (e, s)) fun s => kR (runL pg f_ref_SameGraph_k1 s) (fun e s => some (e, s)))))))))

theorem D_ref_SameGraph_0_ok {pg : Prg} {gh : List GObj} {x0_0 : Int} {v0_1 : PV} {x1_0 : Int} {v1_1 : PV} {e : IExit} {s : St} (h : D_ref_SameGraph_0 pg x0_0 v0_1 x1_0 v1_1 gh = some (e, s)) : runL pg f_ref_SameGraph_0 ⟨[(0, (.agg [(.int .i64 x0_0), v0_1])), (1, (.agg [(.int .i64 x1_0), v1_1]))], [], gh⟩ = some (e, s) :=
  runX_ok an_ref_SameGraph (Eq.trans (by kernel_rfl) h)

end Go.Lw
end

/-! What the code of function law_GatesAnds comes to, piece by piece. Written by program (dprint.py). -/
section
set_option maxRecDepth 10000
set_option maxHeartbeats 4000000
namespace Go.Lw
open Go

def an_law_GatesAnds : Tr := (.node 40 (.ce (.int .i64)) (.node 22 (.agg [.int .i64, .any]) (.node 13 (.ce (.int .i64)) (.node 8 (.ce (.int .i64)) (.node 2 (.ce (.int .i64)) (.node 1 (.ce (.int .i64)) (.node 0 (.agg [.int .i64, .any]) .nil .nil) .nil) (.node 6 (.ce (.bool)) .nil .nil)) (.node 10 (.ce (.int .i64)) (.node 9 (.ce (.int .i64)) .nil .nil) (.node 11 (.ce (.int .i64)) .nil .nil))) (.node 18 (.tup 3) (.node 16 (.ce (.int .i64)) (.node 15 (.agg [.int .i64, .any]) (.node 14 (.tup 3) .nil .nil) .nil) (.node 17 (.ce (.int .i64)) .nil .nil)) (.node 20 (.ce (.int .i64)) (.node 19 (.agg [.int .i64, .any]) .nil .nil) (.node 21 (.ce (.int .i64)) .nil .nil)))) (.node 31 (.ce (.bool)) (.node 27 (.ce (.bool)) (.node 25 (.agg [.int .i64, .any]) (.node 24 (.ce (.int .i64)) (.node 23 (.ce (.int .i64)) .nil .nil) .nil) (.node 26 (.ce (.int .i64)) .nil .nil)) (.node 29 (.agg [.int .i64, .any]) (.node 28 (.ce (.bool)) .nil .nil) (.node 30 (.ce (.int .i64)) .nil .nil))) (.node 36 (.ce (.bool)) (.node 34 (.agg [.int .i64, .any]) (.node 33 (.ce (.bool)) (.node 32 (.ce (.bool)) .nil .nil) .nil) (.node 35 (.ce (.int .i64)) .nil .nil)) (.node 38 (.ce (.bool)) (.node 37 (.ce (.bool)) .nil .nil) (.node 39 (.ce (.bool)) .nil .nil))))) (.node 59 (.ce (.bool)) (.node 50 (.ce (.one)) (.node 45 (.ce (.int .i64)) (.node 43 (.agg [.int .i64, .any]) (.node 42 (.tup 2) (.node 41 (.ce (.bool)) .nil .nil) .nil) (.node 44 (.ce (.int .i64)) .nil .nil)) (.node 47 (.agg [.int .i64, .any]) (.node 46 (.tup 2) .nil .nil) (.node 48 (.ce (.int .i64)) .nil .nil))) (.node 55 (.ce (.bool)) (.node 53 (.agg [.int .i64, .any]) (.node 52 (.ce (.bool)) (.node 51 (.ce (.int .i64)) .nil .nil) .nil) (.node 54 (.ce (.bool)) .nil .nil)) (.node 57 (.ce (.int .i64)) (.node 56 (.agg [.int .i64, .any]) .nil .nil) (.node 58 (.ce (.int .i64)) .nil .nil)))) (.node 68 (.ce (.int .i64)) (.node 64 (.ce (.bool)) (.node 62 (.ce (.int .i64)) (.node 61 (.ce (.bool)) (.node 60 (.ce (.bool)) .nil .nil) .nil) (.node 63 (.ce (.int .i64)) .nil .nil)) (.node 66 (.ce (.bool)) (.node 65 (.ce (.bool)) .nil .nil) (.node 67 (.ce (.int .i64)) .nil .nil))) (.node 72 (.agg [.int .i64, .any]) (.node 70 (.ce (.bool)) (.node 69 (.ce (.bool)) .nil .nil) (.node 71 (.ce (.bool)) .nil .nil)) (.node 74 (.ce (.bool)) (.node 73 (.agg [.int .i64, .any]) .nil .nil) (.node 75 (.ce (.bool)) .nil .nil))))))

noncomputable def D_law_GatesAnds_k2 (pg : Prg) (x8 : Int) (x9 : Int) (x10 : Int) (x11 : Int) (x13 : Int) (xc0_0 : Int) (vc0_1 : PV) (xc1_0 : Int) (vc1_1 : PV) (xc2_0 : Int) (vc2_1 : PV) (gh : List GObj) : Option (IExit × St) := 
  callR gh true (callL pg 5 [] gh) fun r1 gh2 => unB r1 fun b3 => 
  br 55 b3 (onK (degr1 (degr1 vc0_1)) (
  callR gh2 true (callL pg 6 [(.agg [(.int .i64 xc0_0), (degr1 (degr1 vc0_1))])] gh2) fun r4 gh5 => unI .i64 r4 fun n6 => 
  br 61 (n6 == x10) (
  br 66 (x9 == x11) (
  br 71 (x8 == x13) (onK (degr1 (degr1 vc1_1)) (onK (degr1 (degr1 vc2_1)) (
  callR gh5 true (callL pg 7 [(.agg [(.int .i64 xc1_0), (degr1 (degr1 vc1_1))]), (.agg [(.int .i64 xc2_0), (degr1 (degr1 vc2_1))])] gh5) fun r7 gh8 => unB r7 fun b9 => some (.ret, ⟨[(6, (.bool b9))], [], gh8⟩)))) (some (.ret, ⟨[(6, (.bool false))], [], gh5⟩))) (some (.ret, ⟨[(6, (.bool false))], [], gh5⟩))) (some (.ret, ⟨[(6, (.bool false))], [], gh5⟩)))) (some (.ret, ⟨[(6, (.bool false))], [], gh2⟩))

theorem D_law_GatesAnds_k2_ok {pg : Prg} {gh : List GObj} {x8 : Int} {x9 : Int} {x10 : Int} {x11 : Int} {x13 : Int} {xc0_0 : Int} {vc0_1 : PV} {xc1_0 : Int} {vc1_1 : PV} {xc2_0 : Int} {vc2_1 : PV} {e : IExit} {s : St} (h : D_law_GatesAnds_k2 pg x8 x9 x10 x11 x13 xc0_0 vc0_1 xc1_0 vc1_1 xc2_0 vc2_1 gh = some (e, s)) : runL pg f_law_GatesAnds_k2 ⟨[(3, (.ptr false 0 0)), (7, (.ptr false 1 0)), (8, (.int .i64 x8)), (9, (.int .i64 x9)), (10, (.int .i64 x10)), (11, (.int .i64 x11)), (12, (.ptr false 2 0)), (13, (.int .i64 x13))], [[(.int .i64 xc0_0), vc0_1], [(.int .i64 xc1_0), vc1_1], [(.int .i64 xc2_0), vc2_1]], gh⟩ = some (e, s) :=
  runX_ok an_law_GatesAnds (Eq.trans (by kernel_rfl) h)

noncomputable def D_law_GatesAnds_k1 (pg : Prg) (x1 : Int) (x2 : Int) (x8 : Int) (x9 : Int) (x10 : Int) (x11 : Int) (x13 : Int) (xc0_0 : Int) (vc0_1 : PV) (xc1_0 : Int) (vc1_1 : PV) (xc2_0 : Int) (vc2_1 : PV) (gh : List GObj) : Option (IExit × St) := 
  br 41 (x11 == 0) (onK (degr1 (degr1 vc0_1)) (
  callR gh true (callL pg 4 [(.agg [(.int .i64 xc0_0), (degr1 (degr1 vc0_1))]), (.int .i64 x1), (.int .i64 x2)] gh) fun r1 gh2 => unT 2 r1 fun r3 r4 => unA 2 (degr1 (degr1 r3)) fun c5 c6 => unI .i64 c5 fun n7 => unI .i64 (degr1 (degr1 r4)) fun n8 => onK c6 (isC (degr c6) (lenS (degr (degr c6)) fun n9 => 
  br 52 (decide (1000000 < (n9 : Int))) (
  kR (runL pg f_law_GatesAnds_k2 ⟨[(3, (.ptr false 0 0)), (7, (.ptr false 1 0)), (8, (.int .i64 x8)), (9, (.int .i64 x9)), (10, (.int .i64 x10)), (11, (.int .i64 2)), (12, (.ptr false 2 0)), (13, (.int .i64 0))], [[(.int .i64 xc0_0), vc0_1], [(.int .i64 xc1_0), vc1_1], [(.int .i64 0), (.sl true 2 [])]], gh2⟩) (fun e s => some (e, s))) (
  kR (runL pg f_law_GatesAnds_k2 ⟨[(3, (.ptr false 0 0)), (7, (.ptr false 1 0)), (8, (.int .i64 x8)), (9, (.int .i64 x9)), (10, (.int .i64 x10)), (11, (.int .i64 x11)), (12, (.ptr false 2 0)), (13, (.int .i64 n8))], [[(.int .i64 xc0_0), vc0_1], [(.int .i64 xc1_0), vc1_1], [(.int .i64 n7), c6]], gh2⟩) (fun e s => some (e, s))))))) (
  kR (runL pg f_law_GatesAnds_k2 ⟨[(3, (.ptr false 0 0)), (7, (.ptr false 1 0)), (8, (.int .i64 x8)), (9, (.int .i64 x9)), (10, (.int .i64 x10)), (11, (.int .i64 x11)), (12, (.ptr false 2 0)), (13, (.int .i64 x13))], [[(.int .i64 xc0_0), vc0_1], [(.int .i64 xc1_0), vc1_1], [(.int .i64 xc2_0), vc2_1]], gh⟩) (fun e s => some (e, s)))

theorem D_law_GatesAnds_k1_ok {pg : Prg} {gh : List GObj} {x1 : Int} {x2 : Int} {x8 : Int} {x9 : Int} {x10 : Int} {x11 : Int} {x13 : Int} {xc0_0 : Int} {vc0_1 : PV} {xc1_0 : Int} {vc1_1 : PV} {xc2_0 : Int} {vc2_1 : PV} {e : IExit} {s : St} (h : D_law_GatesAnds_k1 pg x1 x2 x8 x9 x10 x11 x13 xc0_0 vc0_1 xc1_0 vc1_1 xc2_0 vc2_1 gh = some (e, s)) : runL pg f_law_GatesAnds_k1 ⟨[(1, (.int .i64 x1)), (2, (.int .i64 x2)), (3, (.ptr false 0 0)), (7, (.ptr false 1 0)), (8, (.int .i64 x8)), (9, (.int .i64 x9)), (10, (.int .i64 x10)), (11, (.int .i64 x11)), (12, (.ptr false 2 0)), (13, (.int .i64 x13))], [[(.int .i64 xc0_0), vc0_1], [(.int .i64 xc1_0), vc1_1], [(.int .i64 xc2_0), vc2_1]], gh⟩ = some (e, s) :=
  runX_ok an_law_GatesAnds (Eq.trans (by kernel_rfl) h)

noncomputable def D_law_GatesAnds_0 (pg : Prg) (x0_0 : Int) (v0_1 : PV) (x1 : Int) (x2 : Int) (gh : List GObj) : Option (IExit × St) := onK (degr1 v0_1) (onK (degr1 (degr1 (degr1 v0_1))) (
  callR gh true (callL pg 1 [(.agg [(.int .i64 x0_0), (degr1 (degr1 (degr1 v0_1)))]), (.int .i64 x1), (.int .i64 x2)] gh) fun r1 gh2 => unT 3 r1 fun r3 r4 r5 => unA 2 (degr1 (degr1 r3)) fun c6 c7 => unI .i64 c6 fun n8 => unI .i64 (degr1 (degr1 r4)) fun n9 => unI .i64 (degr1 (degr1 r5)) fun n10 => onK c7 (onK (degr1 (degr1 (degr1 v0_1))) (
  callR gh2 true (callL pg 2 [(.agg [(.int .i64 x0_0), (degr1 (degr1 (degr1 v0_1)))])] gh2) fun r11 gh12 => unI .i64 r11 fun n13 => 
  br 28 (n13 == 0) (onK (degr1 (degr1 (degr1 v0_1))) (
  callR gh12 true (callL pg 3 [(.agg [(.int .i64 x0_0), (degr1 (degr1 (degr1 v0_1)))]), (.int .i64 x1)] gh12) fun r14 gh15 => unB r14 fun b16 => 
  br 33 (!b16) (
  kR (runL pg f_law_GatesAnds_k1 ⟨[(1, (.int .i64 x1)), (2, (.int .i64 x2)), (3, (.ptr false 0 0)), (7, (.ptr false 1 0)), (8, (.int .i64 n9)), (9, (.int .i64 n10)), (10, (.int .i64 n13)), (11, (.int .i64 5)), (12, (.ptr false 2 0)), (13, (.int .i64 0))], [[(.int .i64 x0_0), (degr1 v0_1)], [(.int .i64 n8), c7], [(.int .i64 0), (.sl true 2 [])]], gh15⟩) (fun e s => some (e, s))) (onK (degr1 (degr1 (degr1 v0_1))) (
  callR gh15 true (callL pg 3 [(.agg [(.int .i64 x0_0), (degr1 (degr1 (degr1 v0_1)))]), (.int .i64 x2)] gh15) fun r17 gh18 => unB r17 fun b19 => 
  br 39 (!b19) (
  kR (runL pg f_law_GatesAnds_k1 ⟨[(1, (.int .i64 x1)), (2, (.int .i64 x2)), (3, (.ptr false 0 0)), (7, (.ptr false 1 0)), (8, (.int .i64 n9)), (9, (.int .i64 n10)), (10, (.int .i64 n13)), (11, (.int .i64 5)), (12, (.ptr false 2 0)), (13, (.int .i64 0))], [[(.int .i64 x0_0), (degr1 v0_1)], [(.int .i64 n8), c7], [(.int .i64 0), (.sl true 2 [])]], gh18⟩) (fun e s => some (e, s))) (
  kR (runL pg f_law_GatesAnds_k1 ⟨[(1, (.int .i64 x1)), (2, (.int .i64 x2)), (3, (.ptr false 0 0)), (7, (.ptr false 1 0)), (8, (.int .i64 n9)), (9, (.int .i64 n10)), (10, (.int .i64 n13)), (11, (.int .i64 n13)), (12, (.ptr false 2 0)), (13, (.int .i64 0))], [[(.int .i64 x0_0), (degr1 v0_1)], [(.int .i64 n8), c7], [(.int .i64 0), (.sl true 2 [])]], gh18⟩) (fun e s => some (e, s))))))) (
  kR (runL pg f_law_GatesAnds_k1 ⟨[(1, (.int .i64 x1)), (2, (.int .i64 x2)), (3, (.ptr false 0 0)), (7, (.ptr false 1 0)), (8, (.int .i64 n9)), (9, (.int .i64 n10)), (10, (.int .i64 n13)), (11, (.int .i64 n13)), (12, (.ptr false 2 0)), (13, (.int .i64 0))], [[(.int .i64 x0_0), (degr1 v0_1)], [(.int .i64 n8), c7], [(.int .i64 0), (.sl true 2 [])]], gh12⟩) (fun e s => some (e, s)))))))

theorem D_law_GatesAnds_0_ok {pg : Prg} {gh : List GObj} {x0_0 : Int} {v0_1 : PV} {x1 : Int} {x2 : Int} {e : IExit} {s : St} (h : D_law_GatesAnds_0 pg x0_0 v0_1 x1 x2 gh = some (e, s)) : runL pg f_law_GatesAnds_0 ⟨[(0, (.agg [(.int .i64 x0_0), v0_1])), (1, (.int .i64 x1)), (2, (.int .i64 x2))], [], gh⟩ = some (e, s) :=
  runX_ok an_law_GatesAnds (Eq.trans (by kernel_rfl) h)

end Go.Lw
end

/-! What the code of function ref_AreLits comes to, piece by piece. Written by program (dprint.py). -/
section
set_option maxRecDepth 10000
set_option maxHeartbeats 4000000
namespace Go.Lw
open Go

def an_ref_AreLits : Tr := (.node 10 (.ce (.int .i64)) (.node 6 (.ce (.int .i64)) (.node 4 (.ce (.bool)) (.node 1 (.ce (.one)) (.node 0 (.agg [.int .i64, .any]) .nil .nil) .nil) (.node 5 (.ce (.int .i64)) .nil .nil)) (.node 8 (.ce (.int .i64)) (.node 7 (.ce (.one)) .nil .nil) (.node 9 (.ce (.bool)) .nil .nil))) (.node 14 (.ce (.int .i64)) (.node 12 (.agg [.int .i64, .any]) (.node 11 (.ce (.int .i64)) .nil .nil) (.node 13 (.ce (.one)) .nil .nil)) (.node 17 (.ce (.bool)) (.node 16 (.ce (.int .i64)) .nil .nil) (.node 18 (.ce (.bool)) .nil .nil))))

noncomputable def D_ref_AreLits_b1 (pg : Prg) (v1 : PV) (x5 : Int) (xc0_0 : Int) (vc0_1 : PV) (gh : List GObj) : Option (IExit × St) := isC (degr v1) (lenS (degr (degr v1)) fun n1 => stK 1 v1 (
  br 9 (decide (x5 < (n1 : Int))) (isC (degr v1) (
  idX 1 none (degr (degr v1)) x5 fun p2 => 
  ldX [[(.int .i64 xc0_0), vc0_1]] gh false 1 (degr p2) fun v3 => unI .i64 v3 fun n4 => onK (degr1 (degr1 vc0_1)) (
  callR gh true (callL pg 3 [(.agg [(.int .i64 xc0_0), (degr1 (degr1 vc0_1))]), (.int .i64 n4)] gh) fun r5 gh6 => unB r5 fun b7 => stK 1 v1 (
  br 18 (!b7) (some (.ret, ⟨[(4, (.bool false))], [], gh6⟩)) (stK 1 v1 (stK 1 v1 (some (.normal, ⟨[(1, v1), (2, (.ptr false 0 0)), (5, (.int .i64 (IntKind.i64.wrap (x5 + 1))))], [[(.int .i64 xc0_0), vc0_1]], gh6⟩)))))))) (some ((.exit 0), ⟨[(1, v1), (2, (.ptr false 0 0)), (5, (.int .i64 x5)), (9, (.bool (decide (x5 < (n1 : Int)))))], [[(.int .i64 xc0_0), vc0_1]], gh⟩))))

theorem D_ref_AreLits_b1_ok {pg : Prg} {gh : List GObj} {v1 : PV} {x5 : Int} {xc0_0 : Int} {vc0_1 : PV} {e : IExit} {s : St} (h : D_ref_AreLits_b1 pg v1 x5 xc0_0 vc0_1 gh = some (e, s)) : runL pg f_ref_AreLits_b1 ⟨[(1, v1), (2, (.ptr false 0 0)), (5, (.int .i64 x5))], [[(.int .i64 xc0_0), vc0_1]], gh⟩ = some (e, s) :=
  runX_ok an_ref_AreLits (Eq.trans (by kernel_rfl) h)

noncomputable def D_ref_AreLits_k1 (pg : Prg)  (gh : List GObj) : Option (IExit × St) := some (.ret, ⟨[(4, (.bool true))], [], gh⟩)

theorem D_ref_AreLits_k1_ok {pg : Prg} {gh : List GObj}  {e : IExit} {s : St} (h : D_ref_AreLits_k1 pg  gh = some (e, s)) : runL pg f_ref_AreLits_k1 ⟨[], [], gh⟩ = some (e, s) :=
  runX_ok an_ref_AreLits (Eq.trans (by kernel_rfl) h)

noncomputable def D_ref_AreLits_0 (pg : Prg) (x0_0 : Int) (v0_1 : PV) (v1 : PV) (gh : List GObj) : Option (IExit × St) := onK (degr1 v0_1) (stK 1 v1 (stK 1 v1 (
  kR (runL pg f_ref_AreLits_l1 ⟨[(1, v1), (2, (.ptr false 0 0)), (5, (.int .i64 0))], [[(.int .i64 x0_0), (degr1 v0_1)]], gh⟩) (fun e s => nx e s (fun e s => some (e, s)) fun s => kR (runL pg f_ref_AreLits_k1 s) (fun e s => some (e, s))))))

theorem D_ref_AreLits_0_ok {pg : Prg} {gh : List GObj} {x0_0 : Int} {v0_1 : PV} {v1 : PV} {e : IExit} {s : St} (h : D_ref_AreLits_0 pg x0_0 v0_1 v1 gh = some (e, s)) : runL pg f_ref_AreLits_0 ⟨[(0, (.agg [(.int .i64 x0_0), v0_1])), (1, v1)], [], gh⟩ = some (e, s) :=
  runX_ok an_ref_AreLits (Eq.trans (by kernel_rfl) h)

end Go.Lw
end

/-! What the code of function ref_NodesOf comes to, piece by piece. Written by program (dprint.py). -/
section
set_option maxRecDepth 10000
set_option maxHeartbeats 4000000
namespace Go.Lw
open Go

def an_ref_NodesOf : Tr := (.node 18 (.ce (.one)) (.node 9 (.ce (.one)) (.node 5 (.ce (.one)) (.node 1 (.ce (.one)) (.node 0 (.agg [.int .i64, .any]) .nil .nil) (.node 4 (.ce (.one)) .nil .nil)) (.node 7 (.ce (.one)) (.node 6 (.ce (.int .i64)) .nil .nil) (.node 8 (.ce (.one)) .nil .nil))) (.node 14 (.ce (.bool)) (.node 12 (.ce (.one)) (.node 10 (.ce (.int .i64)) .nil .nil) (.node 13 (.ce (.int .i64)) .nil .nil)) (.node 16 (.ce (.int .i64)) (.node 15 (.ce (.int .i64)) .nil .nil) (.node 17 (.ce (.one)) .nil .nil)))) (.node 30 (.ce (.int .i64)) (.node 25 (.ce (.bool)) (.node 21 (.ce (.int .i64)) (.node 20 (.ce (.one)) .nil .nil) (.node 24 (.ce (.int .i64)) .nil .nil)) (.node 27 (.ce (.one)) (.node 26 (.ce (.bool)) .nil .nil) (.node 29 (.ce (.one)) .nil .nil))) (.node 36 (.ce (.one)) (.node 34 (.ce (.bool)) (.node 33 (.ce (.int .i64)) .nil .nil) (.node 35 (.ce (.bool)) .nil .nil)) (.node 38 (.ce (.one)) (.node 37 (.ce (.one)) .nil .nil) .nil))))

noncomputable def D_ref_NodesOf_b1 (pg : Prg) (v5 : PV) (x6 : Int) (xc0_0 : Int) (vc0_1 : PV) (gh : List GObj) : Option (IExit × St) := isC (degr vc0_1) (lenS (degr (degr vc0_1)) fun n1 => stK 1 v5 (
  br 14 (decide (x6 < (n1 : Int))) (isC (degr (degr v5)) (isC (degr vc0_1) (
  idX 2 none (degr (degr vc0_1)) x6 fun p2 => 
  idX 1 (some 2) (degr p2) 0 fun p3 => 
  ldX [[(.int .i64 xc0_0), vc0_1]] gh false 1 (degr p3) fun v4 => unI .i64 v4 fun n5 => arK (degr (degr (degr v5))) (
  callR gh true (callL pg 12 [(degr (degr (degr v5))), (.int .i64 n5)] gh) fun r6 gh7 => unB r6 fun b8 => 
  br 26 b8 (isC (degr (degr v5)) (isC (degr vc0_1) (
  idX 2 none (degr (degr vc0_1)) x6 fun p9 => 
  idX 1 (some 2) (degr p9) 1 fun p10 => 
  ldX [[(.int .i64 xc0_0), vc0_1]] gh7 false 1 (degr p10) fun v11 => unI .i64 v11 fun n12 => arK (degr (degr (degr v5))) (
  callR gh7 true (callL pg 12 [(degr (degr (degr v5))), (.int .i64 n12)] gh7) fun r13 gh14 => unB r13 fun b15 => 
  apX 1 1 v5 (.sl false 1 [(.bool b15)]) fun l16 => some (.normal, ⟨[(2, (.ptr false 0 0)), (5, (.sl true 1 l16)), (6, (.int .i64 (IntKind.i64.wrap (x6 + 1))))], [[(.int .i64 xc0_0), vc0_1]], gh14⟩))))) (
  apX 1 1 v5 (.sl false 1 [(.bool false)]) fun l17 => some (.normal, ⟨[(2, (.ptr false 0 0)), (5, (.sl true 1 l17)), (6, (.int .i64 (IntKind.i64.wrap (x6 + 1))))], [[(.int .i64 xc0_0), vc0_1]], gh7⟩)))))) (some ((.exit 0), ⟨[(2, (.ptr false 0 0)), (5, v5), (6, (.int .i64 x6)), (14, (.bool (decide (x6 < (n1 : Int)))))], [[(.int .i64 xc0_0), vc0_1]], gh⟩))))

theorem D_ref_NodesOf_b1_ok {pg : Prg} {gh : List GObj} {v5 : PV} {x6 : Int} {xc0_0 : Int} {vc0_1 : PV} {e : IExit} {s : St} (h : D_ref_NodesOf_b1 pg v5 x6 xc0_0 vc0_1 gh = some (e, s)) : runL pg f_ref_NodesOf_b1 ⟨[(2, (.ptr false 0 0)), (5, v5), (6, (.int .i64 x6))], [[(.int .i64 xc0_0), vc0_1]], gh⟩ = some (e, s) :=
  runX_ok an_ref_NodesOf (Eq.trans (by kernel_rfl) h)

noncomputable def D_ref_NodesOf_k1 (pg : Prg) (v5 : PV) (gh : List GObj) : Option (IExit × St) := isC (degr v5) (stK 0 (degr v5) (some (.ret, ⟨[(4, (degr v5))], [], gh⟩)))

theorem D_ref_NodesOf_k1_ok {pg : Prg} {gh : List GObj} {v5 : PV} {e : IExit} {s : St} (h : D_ref_NodesOf_k1 pg v5 gh = some (e, s)) : runL pg f_ref_NodesOf_k1 ⟨[(5, v5)], [], gh⟩ = some (e, s) :=
  runX_ok an_ref_NodesOf (Eq.trans (by kernel_rfl) h)

noncomputable def D_ref_NodesOf_0 (pg : Prg) (x0_0 : Int) (v0_1 : PV) (v1 : PV) (gh : List GObj) : Option (IExit × St) := onK (degr1 v0_1) (stK 1 v1 (isC (degr v1) (
  apX 1 1 (.sl true 1 [(.bool false)]) (degr (degr v1)) fun l1 => 
  kR (runL pg f_ref_NodesOf_l1 ⟨[(2, (.ptr false 0 0)), (5, (.sl true 1 l1)), (6, (.int .i64 0))], [[(.int .i64 x0_0), (degr1 v0_1)]], gh⟩) (fun e s => nx e s (fun e s => some (e, s)) fun s => kR (runL pg f_ref_NodesOf_k1 s) (fun e s => some (e, s))))))

theorem D_ref_NodesOf_0_ok {pg : Prg} {gh : List GObj} {x0_0 : Int} {v0_1 : PV} {v1 : PV} {e : IExit} {s : St} (h : D_ref_NodesOf_0 pg x0_0 v0_1 v1 gh = some (e, s)) : runL pg f_ref_NodesOf_0 ⟨[(0, (.agg [(.int .i64 x0_0), v0_1])), (1, v1)], [], gh⟩ = some (e, s) :=
  runX_ok an_ref_NodesOf (Eq.trans (by kernel_rfl) h)

end Go.Lw
end

/-! What the code of function ref_LitOf comes to, piece by piece. Written by program (dprint.py). -/
section
set_option maxRecDepth 10000
set_option maxHeartbeats 4000000
namespace Go.Lw
open Go

def an_ref_LitOf : Tr := (.node 9 (.ce (.int .i64)) (.node 5 (.ce (.int .i64)) (.node 1 (.ce (.int .i64)) (.node 0 (.ce (.one)) .nil .nil) (.node 4 (.ce (.bool)) .nil .nil)) (.node 7 (.ce (.bool)) (.node 6 (.ce (.int .i64)) .nil .nil) (.node 8 (.ce (.one)) .nil .nil))) (.node 14 (.ce (.one)) (.node 12 (.ce (.bool)) (.node 10 (.ce (.int .i64)) .nil .nil) (.node 13 (.ce (.bool)) .nil .nil)) (.node 16 (.ce (.int .i64)) (.node 15 (.ce (.int .i64)) .nil .nil) (.node 18 (.ce (.bool)) .nil .nil))))

noncomputable def D_ref_LitOf_0 (pg : Prg) (v0 : PV) (x1 : Int) (gh : List GObj) : Option (IExit × St) := stK 0 v0 (gd (decide ((2 : Int) ≠ 0)) (stK 0 v0 (
  br 7 ((Int.tmod x1 2) == 1) (isC (degr v0) (gd (decide ((2 : Int) ≠ 0)) (
  idX 1 none (degr (degr v0)) (IntKind.i64.wrap (Int.tdiv x1 2)) fun p1 => 
  ldX [] gh false 1 (degr p1) fun v2 => unB v2 fun b3 => some (.ret, ⟨[(4, (.bool (!b3)))], [], gh⟩)))) (isC (degr v0) (gd (decide ((2 : Int) ≠ 0)) (
  idX 1 none (degr (degr v0)) (IntKind.i64.wrap (Int.tdiv x1 2)) fun p4 => 
  ldX [] gh false 1 (degr p4) fun v5 => unB v5 fun b6 => some (.ret, ⟨[(4, (.bool b6))], [], gh⟩)))))))

theorem D_ref_LitOf_0_ok {pg : Prg} {gh : List GObj} {v0 : PV} {x1 : Int} {e : IExit} {s : St} (h : D_ref_LitOf_0 pg v0 x1 gh = some (e, s)) : runL pg f_ref_LitOf_0 ⟨[(0, v0), (1, (.int .i64 x1))], [], gh⟩ = some (e, s) :=
  runX_ok an_ref_LitOf (Eq.trans (by kernel_rfl) h)

end Go.Lw
end

/-! What the code of function law_sameBools comes to, piece by piece. Written by program (dprint.py). -/
section
set_option maxRecDepth 10000
set_option maxHeartbeats 4000000
namespace Go.Lw
open Go

def an_law_sameBools : Tr := (.node 13 (.ce (.int .i64)) (.node 7 (.ce (.int .i64)) (.node 4 (.ce (.bool)) (.node 1 (.ce (.one)) (.node 0 (.ce (.one)) .nil .nil) .nil) (.node 6 (.ce (.one)) (.node 5 (.ce (.int .i64)) .nil .nil) .nil)) (.node 10 (.ce (.bool)) (.node 9 (.ce (.int .i64)) (.node 8 (.ce (.one)) .nil .nil) .nil) (.node 12 (.ce (.one)) (.node 11 (.ce (.int .i64)) .nil .nil) .nil))) (.node 20 (.ce (.bool)) (.node 16 (.ce (.int .i64)) (.node 15 (.ce (.int .i64)) (.node 14 (.ce (.bool)) .nil .nil) .nil) (.node 18 (.ce (.int .i64)) (.node 17 (.ce (.one)) .nil .nil) .nil)) (.node 24 (.ce (.bool)) (.node 22 (.ce (.int .i64)) (.node 21 (.ce (.one)) .nil .nil) .nil) (.node 25 (.ce (.bool)) .nil .nil))))

noncomputable def D_law_sameBools_b1 (pg : Prg) (v0 : PV) (v1 : PV) (x5 : Int) (gh : List GObj) : Option (IExit × St) := isC (degr v0) (lenS (degr (degr v0)) fun n1 => stK 0 v0 (stK 0 v1 (
  br 14 (decide (x5 < (n1 : Int))) (isC (degr v0) (
  idX 1 none (degr (degr v0)) x5 fun p2 => 
  ldX [] gh false 1 (degr p2) fun v3 => unB v3 fun b4 => isC (degr v1) (
  idX 1 none (degr (degr v1)) x5 fun p5 => 
  ldX [] gh false 1 (degr p5) fun v6 => unB v6 fun b7 => stK 0 v0 (stK 0 v1 (
  br 25 (b4 != b7) (some (.ret, ⟨[(4, (.bool false))], [], gh⟩)) (stK 0 v0 (stK 0 v1 (stK 0 v0 (stK 0 v1 (some (.normal, ⟨[(0, v0), (1, v1), (5, (.int .i64 (IntKind.i64.wrap (x5 + 1))))], [], gh⟩))))))))))) (some ((.exit 0), ⟨[(0, v0), (1, v1), (5, (.int .i64 x5)), (14, (.bool (decide (x5 < (n1 : Int)))))], [], gh⟩)))))

theorem D_law_sameBools_b1_ok {pg : Prg} {gh : List GObj} {v0 : PV} {v1 : PV} {x5 : Int} {e : IExit} {s : St} (h : D_law_sameBools_b1 pg v0 v1 x5 gh = some (e, s)) : runL pg f_law_sameBools_b1 ⟨[(0, v0), (1, v1), (5, (.int .i64 x5))], [], gh⟩ = some (e, s) :=
  runX_ok an_law_sameBools (Eq.trans (by kernel_rfl) h)

noncomputable def D_law_sameBools_k1 (pg : Prg)  (gh : List GObj) : Option (IExit × St) := some (.ret, ⟨[(4, (.bool true))], [], gh⟩)

theorem D_law_sameBools_k1_ok {pg : Prg} {gh : List GObj}  {e : IExit} {s : St} (h : D_law_sameBools_k1 pg  gh = some (e, s)) : runL pg f_law_sameBools_k1 ⟨[], [], gh⟩ = some (e, s) :=
  runX_ok an_law_sameBools (Eq.trans (by kernel_rfl) h)

noncomputable def D_law_sameBools_0 (pg : Prg) (v0 : PV) (v1 : PV) (gh : List GObj) : Option (IExit × St) := stK 0 v0 (stK 0 v1 (isC (degr v0) (lenS (degr (degr v0)) fun n1 => isC (degr v1) (lenS (degr (degr v1)) fun n2 => stK 0 v0 (stK 0 v1 (
  br 10 ((n1 : Int) != (n2 : Int)) (some (.ret, ⟨[(4, (.bool false))], [], gh⟩)) (stK 0 v0 (stK 0 v1 (
  kR (runL pg f_law_sameBools_l1 ⟨[(0, v0), (1, v1), (5, (.int .i64 0))], [], gh⟩) (fun e s => nx e s (fun e s => some (e, s)) fun s => kR (runL pg f_law_sameBools_k1 s) (fun e s => some (e, s))))))))))))

theorem D_law_sameBools_0_ok {pg : Prg} {gh : List GObj} {v0 : PV} {v1 : PV} {e : IExit} {s : St} (h : D_law_sameBools_0 pg v0 v1 gh = some (e, s)) : runL pg f_law_sameBools_0 ⟨[(0, v0), (1, v1)], [], gh⟩ = some (e, s) :=
  runX_ok an_law_sameBools (Eq.trans (by kernel_rfl) h)

end Go.Lw
end

/-! What the code of function law_GatesEvals comes to, piece by piece. Written by program (dprint.py). -/
section
set_option maxRecDepth 10000
set_option maxHeartbeats 4000000
namespace Go.Lw
open Go

def an_law_GatesEvals : Tr := (.node 36 (.ce (.int .i64)) (.node 19 (.ce (.int .i64)) (.node 11 (.ce (.one)) (.node 7 (.ce (.one)) (.node 2 (.ce (.one)) (.node 1 (.ce (.one)) (.node 0 (.agg [.int .i64, .any]) .nil .nil) .nil) (.node 6 (.ce (.bool)) .nil .nil)) (.node 9 (.ce (.int .i64)) (.node 8 (.ce (.int .i64)) .nil .nil) (.node 10 (.ce (.one)) .nil .nil))) (.node 15 (.ce (.one)) (.node 13 (.tup 2) (.node 12 (.ce (.int .i64)) .nil .nil) (.node 14 (.agg [.int .i64, .any]) .nil .nil)) (.node 17 (.tup 2) (.node 16 (.ce (.one)) .nil .nil) (.node 18 (.ce (.one)) .nil .nil)))) (.node 27 (.ce (.bool)) (.node 23 (.ce (.bool)) (.node 21 (.ce (.int .i64)) (.node 20 (.agg [.int .i64, .any]) .nil .nil) (.node 22 (.ce (.int .i64)) .nil .nil)) (.node 25 (.agg [.int .i64, .any]) (.node 24 (.ce (.bool)) .nil .nil) (.node 26 (.ce (.one)) .nil .nil))) (.node 31 (.ce (.bool)) (.node 29 (.ce (.bool)) (.node 28 (.ce (.bool)) .nil .nil) (.node 30 (.ce (.int .i64)) .nil .nil)) (.node 33 (.ce (.one)) (.node 32 (.ce (.bool)) .nil .nil) (.node 34 (.ce (.int .i64)) .nil .nil))))) (.node 53 (.ce (.int .i64)) (.node 45 (.ce (.one)) (.node 41 (.agg [.int .i64, .any]) (.node 39 (.ce (.int .i64)) (.node 38 (.ce (.bool)) (.node 37 (.ce (.bool)) .nil .nil) .nil) (.node 40 (.ce (.bool)) .nil .nil)) (.node 43 (.ce (.one)) (.node 42 (.ce (.one)) .nil .nil) (.node 44 (.ce (.int .i64)) .nil .nil))) (.node 49 (.ce (.int .i64)) (.node 47 (.ce (.bool)) (.node 46 (.ce (.int .i64)) .nil .nil) (.node 48 (.ce (.int .i64)) .nil .nil)) (.node 51 (.ce (.one)) (.node 50 (.ce (.one)) .nil .nil) (.node 52 (.ce (.one)) .nil .nil)))) (.node 62 (.ce (.int .i64)) (.node 58 (.ce (.one)) (.node 56 (.ce (.bool)) (.node 55 (.ce (.int .i64)) .nil .nil) (.node 57 (.ce (.one)) .nil .nil)) (.node 60 (.ce (.bool)) (.node 59 (.ce (.bool)) .nil .nil) (.node 61 (.ce (.int .i64)) .nil .nil))) (.node 66 (.ce (.one)) (.node 64 (.ce (.bool)) (.node 63 (.ce (.bool)) .nil .nil) (.node 65 (.ce (.bool)) .nil .nil)) (.node 68 (.ce (.bool)) (.node 67 (.ce (.one)) .nil .nil) (.node 69 (.ce (.bool)) .nil .nil))))))

noncomputable def D_law_GatesEvals_b1 (pg : Prg) (v2 : PV) (v7 : PV) (x8 : Int) (x9 : Int) (v10 : PV) (v11 : PV) (x12 : Int) (gh : List GObj) : Option (IExit × St) := isC (degr v2) (lenS (degr (degr v2)) fun n1 => stK 0 v2 (stK 0 v7 (stK 0 v10 (stK 0 v11 (
  br 47 (decide (x12 < (n1 : Int))) (isC (degr v11) (isC (degr v2) (
  idX 1 none (degr (degr v2)) x12 fun p2 => 
  ldX [] gh false 1 (degr p2) fun v3 => unI .i64 v3 fun n4 => arK (degr (degr v11)) (
  callR gh true (callL pg 12 [(degr (degr v11)), (.int .i64 n4)] gh) fun r5 gh6 => unB r5 fun b7 => 
  apX 1 1 v10 (.sl false 1 [(.bool b7)]) fun l8 => stK 0 v2 (stK 0 v7 (stK 0 v11 (stK 0 v2 (stK 0 v7 (stK 0 v11 (stK 0 v2 (stK 0 v7 (stK 0 v11 (some (.normal, ⟨[(2, v2), (7, v7), (8, (.int .i64 x8)), (9, (.int .i64 x9)), (10, (.sl true 1 l8)), (11, v11), (12, (.int .i64 (IntKind.i64.wrap (x12 + 1))))], [], gh6⟩)))))))))))))) (some ((.exit 0), ⟨[(2, v2), (7, v7), (8, (.int .i64 x8)), (9, (.int .i64 x9)), (10, v10), (11, v11), (12, (.int .i64 x12)), (47, (.bool (decide (x12 < (n1 : Int)))))], [], gh⟩)))))))

theorem D_law_GatesEvals_b1_ok {pg : Prg} {gh : List GObj} {v2 : PV} {v7 : PV} {x8 : Int} {x9 : Int} {v10 : PV} {v11 : PV} {x12 : Int} {e : IExit} {s : St} (h : D_law_GatesEvals_b1 pg v2 v7 x8 x9 v10 v11 x12 gh = some (e, s)) : runL pg f_law_GatesEvals_b1 ⟨[(2, v2), (7, v7), (8, (.int .i64 x8)), (9, (.int .i64 x9)), (10, v10), (11, v11), (12, (.int .i64 x12))], [], gh⟩ = some (e, s) :=
  runX_ok an_law_GatesEvals (Eq.trans (by kernel_rfl) h)

noncomputable def D_law_GatesEvals_k3 (pg : Prg) (v7 : PV) (x8 : Int) (x9 : Int) (v10 : PV) (gh : List GObj) : Option (IExit × St) := 
  callR gh true (callL pg 5 [] gh) fun r1 gh2 => unB r1 fun b3 => 
  br 60 b3 (
  br 65 (x8 == x9) (isC (degr v7) (isC (degr v10) (arK (degr (degr v7)) (arK (degr (degr v10)) (
  callR gh2 true (callL pg 13 [(degr (degr v7)), (degr (degr v10))] gh2) fun r4 gh5 => unB r4 fun b6 => some (.ret, ⟨[(6, (.bool b6))], [], gh5⟩)))))) (some (.ret, ⟨[(6, (.bool false))], [], gh2⟩))) (some (.ret, ⟨[(6, (.bool false))], [], gh2⟩))

theorem D_law_GatesEvals_k3_ok {pg : Prg} {gh : List GObj} {v7 : PV} {x8 : Int} {x9 : Int} {v10 : PV} {e : IExit} {s : St} (h : D_law_GatesEvals_k3 pg v7 x8 x9 v10 gh = some (e, s)) : runL pg f_law_GatesEvals_k3 ⟨[(7, v7), (8, (.int .i64 x8)), (9, (.int .i64 x9)), (10, v10)], [], gh⟩ = some (e, s) :=
  runX_ok an_law_GatesEvals (Eq.trans (by kernel_rfl) h)

noncomputable def D_law_GatesEvals_k2 (pg : Prg) (v1 : PV) (v2 : PV) (v7 : PV) (x8 : Int) (x9 : Int) (xc0_0 : Int) (vc0_1 : PV) (gh : List GObj) : Option (IExit × St) := stK 1 v1 (stK 1 v2 (stK 1 v7 (
  br 40 (x9 == 0) (isC (degr v1) (onK (degr1 (degr1 vc0_1)) (arK (degr (degr v1)) (
  callR gh true (callL pg 11 [(.agg [(.int .i64 xc0_0), (degr1 (degr1 vc0_1))]), (degr (degr v1))] gh) fun r1 gh2 => isC r1 (stK 0 v2 (stK 0 v7 (stK 0 r1 (stK 0 v2 (stK 0 v7 (stK 0 r1 (
  kR (runL pg f_law_GatesEvals_l1 ⟨[(2, v2), (7, v7), (8, (.int .i64 x8)), (9, (.int .i64 x9)), (10, (.sl true 1 [])), (11, r1), (12, (.int .i64 0))], [], gh2⟩) (fun e s => po [7, 8, 9, 10] 0 e s (fun e s => nx e s (fun e s => some (e, s)) fun s => kR (runL pg f_law_GatesEvals_k3 s) (fun e s => some (e, s))))))))))))))) (stK 0 v7 (
  kR (runL pg f_law_GatesEvals_k3 ⟨[(7, v7), (8, (.int .i64 x8)), (9, (.int .i64 x9)), (10, (.sl true 1 []))], [], gh⟩) (fun e s => some (e, s)))))))

theorem D_law_GatesEvals_k2_ok {pg : Prg} {gh : List GObj} {v1 : PV} {v2 : PV} {v7 : PV} {x8 : Int} {x9 : Int} {xc0_0 : Int} {vc0_1 : PV} {e : IExit} {s : St} (h : D_law_GatesEvals_k2 pg v1 v2 v7 x8 x9 xc0_0 vc0_1 gh = some (e, s)) : runL pg f_law_GatesEvals_k2 ⟨[(1, v1), (2, v2), (3, (.ptr false 0 0)), (7, v7), (8, (.int .i64 x8)), (9, (.int .i64 x9))], [[(.int .i64 xc0_0), vc0_1]], gh⟩ = some (e, s) :=
  runX_ok an_law_GatesEvals (Eq.trans (by kernel_rfl) h)

noncomputable def D_law_GatesEvals_k1 (pg : Prg) (v1 : PV) (v2 : PV) (v7 : PV) (x8 : Int) (x9 : Int) (xc0_0 : Int) (vc0_1 : PV) (gh : List GObj) : Option (IExit × St) := 
  br 32 (x9 == 0) (isC (degr v1) (lenS (degr (degr v1)) fun n1 => stK 1 v1 (stK 1 v2 (stK 1 v7 (
  br 38 ((n1 : Int) != xc0_0) (stK 1 v1 (stK 1 v2 (stK 1 v7 (stK 1 v1 (stK 1 v2 (stK 1 v7 (
  kR (runL pg f_law_GatesEvals_k2 ⟨[(1, v1), (2, v2), (3, (.ptr false 0 0)), (7, v7), (8, (.int .i64 x8)), (9, (.int .i64 1))], [[(.int .i64 xc0_0), vc0_1]], gh⟩) (fun e s => some (e, s))))))))) (stK 1 v1 (stK 1 v2 (stK 1 v7 (
  kR (runL pg f_law_GatesEvals_k2 ⟨[(1, v1), (2, v2), (3, (.ptr false 0 0)), (7, v7), (8, (.int .i64 x8)), (9, (.int .i64 x9))], [[(.int .i64 xc0_0), vc0_1]], gh⟩) (fun e s => some (e, s))))))))))) (stK 1 v1 (stK 1 v2 (stK 1 v7 (stK 1 v1 (stK 1 v2 (stK 1 v7 (
  kR (runL pg f_law_GatesEvals_k2 ⟨[(1, v1), (2, v2), (3, (.ptr false 0 0)), (7, v7), (8, (.int .i64 x8)), (9, (.int .i64 x9))], [[(.int .i64 xc0_0), vc0_1]], gh⟩) (fun e s => some (e, s)))))))))

theorem D_law_GatesEvals_k1_ok {pg : Prg} {gh : List GObj} {v1 : PV} {v2 : PV} {v7 : PV} {x8 : Int} {x9 : Int} {xc0_0 : Int} {vc0_1 : PV} {e : IExit} {s : St} (h : D_law_GatesEvals_k1 pg v1 v2 v7 x8 x9 xc0_0 vc0_1 gh = some (e, s)) : runL pg f_law_GatesEvals_k1 ⟨[(1, v1), (2, v2), (3, (.ptr false 0 0)), (7, v7), (8, (.int .i64 x8)), (9, (.int .i64 x9))], [[(.int .i64 xc0_0), vc0_1]], gh⟩ = some (e, s) :=
  runX_ok an_law_GatesEvals (Eq.trans (by kernel_rfl) h)

noncomputable def D_law_GatesEvals_0 (pg : Prg) (x0_0 : Int) (v0_1 : PV) (v1 : PV) (v2 : PV) (gh : List GObj) : Option (IExit × St) := onK (degr1 v0_1) (stK 1 v1 (stK 1 v2 (isC (degr v1) (isC (degr v2) (onK (degr1 (degr1 (degr1 v0_1))) (arK (degr (degr v1)) (arK (degr (degr v2)) (
  callR gh true (callL pg 9 [(.agg [(.int .i64 x0_0), (degr1 (degr1 (degr1 v0_1)))]), (degr (degr v1)), (degr (degr v2))] gh) fun r1 gh2 => unT 2 r1 fun r3 r4 => isC (degr1 (degr1 r3)) (unI .i64 (degr1 (degr1 r4)) fun n5 => stK 1 v1 (stK 1 v2 (stK 1 (degr1 (degr1 r3)) (onK (degr1 (degr1 (degr1 v0_1))) (
  callR gh2 true (callL pg 2 [(.agg [(.int .i64 x0_0), (degr1 (degr1 (degr1 v0_1)))])] gh2) fun r6 gh7 => unI .i64 r6 fun n8 => stK 1 v1 (stK 1 v2 (stK 1 (degr1 (degr1 r3)) (
  br 24 (n8 == 0) (isC (degr v2) (onK (degr1 (degr1 (degr1 v0_1))) (arK (degr (degr v2)) (
  callR gh7 true (callL pg 10 [(.agg [(.int .i64 x0_0), (degr1 (degr1 (degr1 v0_1)))]), (degr (degr v2))] gh7) fun r9 gh10 => unB r9 fun b11 => stK 1 v1 (stK 1 v2 (stK 1 (degr1 (degr1 r3)) (
  br 29 (!b11) (stK 1 v1 (stK 1 v2 (stK 1 (degr1 (degr1 r3)) (stK 1 v1 (stK 1 v2 (stK 1 (degr1 (degr1 r3)) (
  kR (runL pg f_law_GatesEvals_k1 ⟨[(1, v1), (2, v2), (3, (.ptr false 0 0)), (7, (degr1 (degr1 r3))), (8, (.int .i64 n5)), (9, (.int .i64 5))], [[(.int .i64 x0_0), (degr1 v0_1)]], gh10⟩) (fun e s => some (e, s))))))))) (stK 1 v1 (stK 1 v2 (stK 1 (degr1 (degr1 r3)) (
  kR (runL pg f_law_GatesEvals_k1 ⟨[(1, v1), (2, v2), (3, (.ptr false 0 0)), (7, (degr1 (degr1 r3))), (8, (.int .i64 n5)), (9, (.int .i64 n8))], [[(.int .i64 x0_0), (degr1 v0_1)]], gh10⟩) (fun e s => some (e, s))))))))))))) (stK 1 v1 (stK 1 v2 (stK 1 (degr1 (degr1 r3)) (stK 1 v1 (stK 1 v2 (stK 1 (degr1 (degr1 r3)) (
  kR (runL pg f_law_GatesEvals_k1 ⟨[(1, v1), (2, v2), (3, (.ptr false 0 0)), (7, (degr1 (degr1 r3))), (8, (.int .i64 n5)), (9, (.int .i64 n8))], [[(.int .i64 x0_0), (degr1 v0_1)]], gh7⟩) (fun e s => some (e, s)))))))))))))))))))))))))

theorem D_law_GatesEvals_0_ok {pg : Prg} {gh : List GObj} {x0_0 : Int} {v0_1 : PV} {v1 : PV} {v2 : PV} {e : IExit} {s : St} (h : D_law_GatesEvals_0 pg x0_0 v0_1 v1 v2 gh = some (e, s)) : runL pg f_law_GatesEvals_0 ⟨[(0, (.agg [(.int .i64 x0_0), v0_1])), (1, v1), (2, v2)], [], gh⟩ = some (e, s) :=
  runX_ok an_law_GatesEvals (Eq.trans (by kernel_rfl) h)

end Go.Lw
end

/-! What the code of function law_CnfTells comes to, piece by piece. Written by program (dprint.py). -/
section
set_option maxRecDepth 10000
set_option maxHeartbeats 4000000
namespace Go.Lw
open Go

def an_law_CnfTells : Tr := (.node 64 (.ce (.bool)) (.node 33 (.ce (.int .i64)) (.node 19 (.ce (.int .i64)) (.node 12 (.ce (.int .i64)) (.node 3 (.ce (.one)) (.node 1 (.ce (.one)) (.node 0 (.agg [.int .i64, .any]) .nil .nil) (.node 2 (.ce (.one)) .nil .nil)) (.node 10 (.ce (.int .i64)) (.node 8 (.ce (.bool)) .nil .nil) (.node 11 (.ce (.one)) .nil .nil))) (.node 16 (.ce (.bool)) (.node 14 (.ce (.one)) (.node 13 (.ce (.one)) .nil .nil) (.node 15 (.ce (.int .i64)) .nil .nil)) (.node 18 (.ce (.bool)) (.node 17 (.ce (.int .i64)) .nil .nil) .nil))) (.node 26 (.ce (.bool)) (.node 23 (.ce (.bool)) (.node 21 (.ce (.bool)) (.node 20 (.ce (.bool)) .nil .nil) (.node 22 (.ce (.bool)) .nil .nil)) (.node 25 (.ce (.bool)) (.node 24 (.ce (.bool)) .nil .nil) .nil)) (.node 30 (.tup 2) (.node 28 (.agg [.int .i64, .any]) (.node 27 (.tup 2) .nil .nil) (.node 29 (.ce (.one)) .nil .nil)) (.node 32 (.ce (.int .i64)) (.node 31 (.agg [.int .i64, .any]) .nil .nil) .nil)))) (.node 50 (.agg [.int .i64, .any]) (.node 43 (.ce (.int .i64)) (.node 38 (.ce (.int .i64)) (.node 36 (.ce (.int .i64)) (.node 34 (.ce (.bool)) .nil .nil) (.node 37 (.ce (.bool)) .nil .nil)) (.node 41 (.ce (.bool)) (.node 40 (.ce (.int .i64)) .nil .nil) (.node 42 (.ce (.int .i64)) .nil .nil))) (.node 47 (.ce (.one)) (.node 45 (.ce (.int .i64)) (.node 44 (.ce (.one)) .nil .nil) (.node 46 (.ce (.int .i64)) .nil .nil)) (.node 49 (.tup 2) (.node 48 (.ce (.one)) .nil .nil) .nil))) (.node 57 (.agg [.int .i64, .any]) (.node 54 (.ce (.one)) (.node 52 (.ce (.one)) (.node 51 (.ce (.one)) .nil .nil) (.node 53 (.tup 2) .nil .nil)) (.node 56 (.tup 2) (.node 55 (.ce (.int .i64)) .nil .nil) .nil)) (.node 61 (.ce (.one)) (.node 59 (.ce (.one)) (.node 58 (.ce (.one)) .nil .nil) (.node 60 (.tup 2) .nil .nil)) (.node 63 (.ce (.int .i64)) (.node 62 (.ce (.int .i64)) .nil .nil) .nil))))) (.node 94 (.ce (.bool)) (.node 80 (.ce (.bool)) (.node 72 (.ce (.bool)) (.node 68 (.ce (.bool)) (.node 66 (.ce (.int .i64)) (.node 65 (.ce (.bool)) .nil .nil) (.node 67 (.ce (.bool)) .nil .nil)) (.node 70 (.ce (.one)) (.node 69 (.ce (.int .i64)) .nil .nil) (.node 71 (.ce (.int .i64)) .nil .nil))) (.node 76 (.ce (.bool)) (.node 74 (.ce (.int .i64)) (.node 73 (.ce (.int .i64)) .nil .nil) (.node 75 (.ce (.bool)) .nil .nil)) (.node 78 (.ce (.int .i64)) (.node 77 (.ce (.one)) .nil .nil) .nil))) (.node 87 (.ce (.int .i64)) (.node 84 (.ce (.one)) (.node 82 (.tup 2) (.node 81 (.ce (.bool)) .nil .nil) (.node 83 (.agg [.int .i64, .any]) .nil .nil)) (.node 86 (.ce (.bool)) (.node 85 (.tup 2) .nil .nil) .nil)) (.node 91 (.ce (.bool)) (.node 89 (.ce (.bool)) (.node 88 (.ce (.int .i64)) .nil .nil) (.node 90 (.ce (.bool)) .nil .nil)) (.node 93 (.ce (.bool)) (.node 92 (.ce (.bool)) .nil .nil) .nil)))) (.node 109 (.ce (.one)) (.node 102 (.ce (.bool)) (.node 98 (.tup 2) (.node 96 (.agg [.int .i64, .any]) (.node 95 (.tup 2) .nil .nil) (.node 97 (.ce (.one)) .nil .nil)) (.node 100 (.ce (.int .i64)) (.node 99 (.ce (.bool)) .nil .nil) (.node 101 (.ce (.int .i64)) .nil .nil))) (.node 106 (.ce (.bool)) (.node 104 (.ce (.bool)) (.node 103 (.ce (.bool)) .nil .nil) (.node 105 (.ce (.bool)) .nil .nil)) (.node 108 (.agg [.int .i64, .any]) (.node 107 (.tup 2) .nil .nil) .nil))) (.node 117 (.ce (.int .i64)) (.node 114 (.tup 2) (.node 112 (.ce (.one)) (.node 111 (.ce (.int .i64)) .nil .nil) (.node 113 (.ce (.one)) .nil .nil)) (.node 116 (.ce (.int .i64)) (.node 115 (.ce (.one)) .nil .nil) .nil)) (.node 121 (.ce (.one)) (.node 119 (.ce (.bool)) (.node 118 (.ce (.bool)) .nil .nil) (.node 120 (.ce (.one)) .nil .nil)) (.node 123 (.ce (.bool)) (.node 122 (.ce (.bool)) .nil .nil) .nil))))))

noncomputable def D_law_CnfTells_b1 (pg : Prg) (v1 : PV) (v2 : PV) (v3 : PV) (v11 : PV) (x12 : Int) (xc0_0 : Int) (vc0_1 : PV) (xc1_0 : Int) (vc1_1 : PV) (gh : List GObj) : Option (IExit × St) := stK 2 v1 (stK 2 v2 (stK 2 v3 (stK 2 v11 (
  br 41 (decide (x12 ≤ xc1_0)) (
  apX 1 8 v11 (.sl false 1 [(.int .i64 (IntKind.i64.wrap (2 * x12)))]) fun l1 => stK 2 v1 (stK 2 v2 (stK 2 v3 (stK 2 v1 (stK 2 v2 (stK 2 v3 (stK 2 v1 (stK 2 v2 (stK 2 v3 (some (.normal, ⟨[(1, v1), (2, v2), (3, v3), (4, (.ptr false 0 0)), (9, (.ptr false 1 0)), (11, (.sl true 1 l1)), (12, (.int .i64 (IntKind.i64.wrap (x12 + 1))))], [[(.int .i64 xc0_0), vc0_1], [(.int .i64 xc1_0), vc1_1]], gh⟩))))))))))) (some ((.exit 0), ⟨[(1, v1), (2, v2), (3, v3), (4, (.ptr false 0 0)), (9, (.ptr false 1 0)), (11, v11), (12, (.int .i64 x12)), (41, (.bool (decide (x12 ≤ xc1_0))))], [[(.int .i64 xc0_0), vc0_1], [(.int .i64 xc1_0), vc1_1]], gh⟩))))))

theorem D_law_CnfTells_b1_ok {pg : Prg} {gh : List GObj} {v1 : PV} {v2 : PV} {v3 : PV} {v11 : PV} {x12 : Int} {xc0_0 : Int} {vc0_1 : PV} {xc1_0 : Int} {vc1_1 : PV} {e : IExit} {s : St} (h : D_law_CnfTells_b1 pg v1 v2 v3 v11 x12 xc0_0 vc0_1 xc1_0 vc1_1 gh = some (e, s)) : runL pg f_law_CnfTells_b1 ⟨[(1, v1), (2, v2), (3, v3), (4, (.ptr false 0 0)), (9, (.ptr false 1 0)), (11, v11), (12, (.int .i64 x12))], [[(.int .i64 xc0_0), vc0_1], [(.int .i64 xc1_0), vc1_1]], gh⟩ = some (e, s) :=
  runX_ok an_law_CnfTells (Eq.trans (by kernel_rfl) h)

noncomputable def D_law_CnfTells_b2 (pg : Prg) (v3 : PV) (v11 : PV) (v13 : PV) (v14 : PV) (b16 : Bool) (x17 : Int) (xc0_0 : Int) (vc0_1 : PV) (xc1_0 : Int) (vc1_1 : PV) (gh : List GObj) : Option (IExit × St) := isC (degr v14) (lenS (degr (degr v14)) fun n1 => stK 2 v3 (stK 2 v11 (stK 2 v13 (stK 2 v14 (
  br 72 (decide (x17 < (n1 : Int))) (
  br 76 b16 (isC (degr v14) (
  idX 1 none (degr (degr v14)) x17 fun p2 => 
  ldX [[(.int .i64 xc0_0), vc0_1], [(.int .i64 xc1_0), vc1_1]] gh false 1 (degr p2) fun v4 => unB v4 fun b5 => stK 2 v3 (stK 2 v11 (stK 2 v13 (stK 2 v14 (stK 2 v3 (stK 2 v11 (stK 2 v13 (stK 2 v14 (stK 2 v3 (stK 2 v11 (stK 2 v13 (stK 2 v14 (some (.normal, ⟨[(3, v3), (4, (.ptr false 0 0)), (9, (.ptr false 1 0)), (11, v11), (13, v13), (14, v14), (16, (.bool b5)), (17, (.int .i64 (IntKind.i64.wrap (x17 + 1))))], [[(.int .i64 xc0_0), vc0_1], [(.int .i64 xc1_0), vc1_1]], gh⟩))))))))))))))) (stK 2 v3 (stK 2 v11 (stK 2 v13 (stK 2 v14 (stK 2 v3 (stK 2 v11 (stK 2 v13 (stK 2 v14 (stK 2 v3 (stK 2 v11 (stK 2 v13 (stK 2 v14 (some (.normal, ⟨[(3, v3), (4, (.ptr false 0 0)), (9, (.ptr false 1 0)), (11, v11), (13, v13), (14, v14), (16, (.bool false)), (17, (.int .i64 (IntKind.i64.wrap (x17 + 1))))], [[(.int .i64 xc0_0), vc0_1], [(.int .i64 xc1_0), vc1_1]], gh⟩))))))))))))))) (some ((.exit 2), ⟨[(3, v3), (4, (.ptr false 0 0)), (9, (.ptr false 1 0)), (11, v11), (13, v13), (14, v14), (16, (.bool b16)), (17, (.int .i64 x17)), (72, (.bool (decide (x17 < (n1 : Int)))))], [[(.int .i64 xc0_0), vc0_1], [(.int .i64 xc1_0), vc1_1]], gh⟩)))))))

theorem D_law_CnfTells_b2_ok {pg : Prg} {gh : List GObj} {v3 : PV} {v11 : PV} {v13 : PV} {v14 : PV} {b16 : Bool} {x17 : Int} {xc0_0 : Int} {vc0_1 : PV} {xc1_0 : Int} {vc1_1 : PV} {e : IExit} {s : St} (h : D_law_CnfTells_b2 pg v3 v11 v13 v14 b16 x17 xc0_0 vc0_1 xc1_0 vc1_1 gh = some (e, s)) : runL pg f_law_CnfTells_b2 ⟨[(3, v3), (4, (.ptr false 0 0)), (9, (.ptr false 1 0)), (11, v11), (13, v13), (14, v14), (16, (.bool b16)), (17, (.int .i64 x17))], [[(.int .i64 xc0_0), vc0_1], [(.int .i64 xc1_0), vc1_1]], gh⟩ = some (e, s) :=
  runX_ok an_law_CnfTells (Eq.trans (by kernel_rfl) h)

noncomputable def D_law_CnfTells_k2 (pg : Prg) (v3 : PV) (v11 : PV) (v13 : PV) (b16 : Bool) (xc0_0 : Int) (vc0_1 : PV) (xc1_0 : Int) (vc1_1 : PV) (gh : List GObj) : Option (IExit × St) := isC (degr v13) (onK (degr1 (degr1 vc1_1)) (arK (degr (degr v13)) (
  callR gh true (callL pg 32 [(.agg [(.int .i64 xc1_0), (degr1 (degr1 vc1_1))]), (degr (degr v13))] gh) fun r1 gh2 => unT 2 r1 fun r3 r4 => unB (degr1 (degr1 r3)) fun b5 => unI .i64 (degr1 (degr1 r4)) fun n6 => stK 2 v3 (stK 2 v11 (
  br 90 (n6 != 0) (stK 2 v3 (stK 2 v11 (some (.ret, ⟨[(8, (.bool false))], [], gh2⟩)))) (stK 2 v3 (stK 2 v11 (
  br 94 (b5 != b16) (some (.ret, ⟨[(8, (.bool false))], [], gh2⟩)) (some (.normal, ⟨[(3, v3), (4, (.ptr false 0 0)), (9, (.ptr false 1 0)), (11, v11), (94, (.bool (b5 != b16)))], [[(.int .i64 xc0_0), vc0_1], [(.int .i64 xc1_0), vc1_1]], gh2⟩))))))))))

theorem D_law_CnfTells_k2_ok {pg : Prg} {gh : List GObj} {v3 : PV} {v11 : PV} {v13 : PV} {b16 : Bool} {xc0_0 : Int} {vc0_1 : PV} {xc1_0 : Int} {vc1_1 : PV} {e : IExit} {s : St} (h : D_law_CnfTells_k2 pg v3 v11 v13 b16 xc0_0 vc0_1 xc1_0 vc1_1 gh = some (e, s)) : runL pg f_law_CnfTells_k2 ⟨[(3, v3), (4, (.ptr false 0 0)), (9, (.ptr false 1 0)), (11, v11), (13, v13), (16, (.bool b16))], [[(.int .i64 xc0_0), vc0_1], [(.int .i64 xc1_0), vc1_1]], gh⟩ = some (e, s) :=
  runX_ok an_law_CnfTells (Eq.trans (by kernel_rfl) h)

noncomputable def D_law_CnfTells_k3 (pg : Prg) (v3 : PV) (v11 : PV) (xc0_0 : Int) (vc0_1 : PV) (xc1_0 : Int) (vc1_1 : PV) (gh : List GObj) : Option (IExit × St) := isC (degr v3) (onK (degr1 (degr1 vc1_1)) (arK (degr (degr v3)) (
  callR gh true (callL pg 32 [(.agg [(.int .i64 xc1_0), (degr1 (degr1 vc1_1))]), (degr (degr v3))] gh) fun r1 gh2 => unT 2 r1 fun r3 r4 => unB (degr1 (degr1 r3)) fun b5 => unI .i64 (degr1 (degr1 r4)) fun n6 => stK 1 v3 (stK 1 v11 (
  br 103 (n6 != 0) (stK 1 v3 (stK 1 v11 (some (.ret, ⟨[(8, (.bool true))], [], gh2⟩)))) (stK 1 v3 (stK 1 v11 (
  br 106 (!b5) (some (.ret, ⟨[(8, (.bool true))], [], gh2⟩)) (isC (degr v3) (
  slX 1 (degr (degr v3)) none (some xc0_0) fun v7 => isC v7 (isC (degr v11) (onK (degr1 (degr1 vc0_1)) (arK (degr v7) (arK (degr (degr v11)) (
  callR gh2 true (callL pg 9 [(.agg [(.int .i64 xc0_0), (degr1 (degr1 vc0_1))]), (degr v7), (degr (degr v11))] gh2) fun r8 gh9 => unT 2 r8 fun r10 r11 => isC (degr1 (degr1 r10)) (unI .i64 (degr1 (degr1 r11)) fun n12 => stK 0 v3 (stK 0 (degr1 (degr1 r10)) (
  br 119 (n12 == 0) (isC (degr (degr1 (degr1 r10))) (isC (degr v3) (arK (degr (degr (degr1 (degr1 r10)))) (arK (degr (degr v3)) (
  callR gh9 true (callL pg 13 [(degr (degr (degr1 (degr1 r10)))), (degr (degr v3))] gh9) fun r13 gh14 => unB r13 fun b15 => some (.ret, ⟨[(8, (.bool b15))], [], gh14⟩)))))) (some (.ret, ⟨[(8, (.bool false))], [], gh9⟩))))))))))))))))))))

theorem D_law_CnfTells_k3_ok {pg : Prg} {gh : List GObj} {v3 : PV} {v11 : PV} {xc0_0 : Int} {vc0_1 : PV} {xc1_0 : Int} {vc1_1 : PV} {e : IExit} {s : St} (h : D_law_CnfTells_k3 pg v3 v11 xc0_0 vc0_1 xc1_0 vc1_1 gh = some (e, s)) : runL pg f_law_CnfTells_k3 ⟨[(3, v3), (4, (.ptr false 0 0)), (9, (.ptr false 1 0)), (11, v11)], [[(.int .i64 xc0_0), vc0_1], [(.int .i64 xc1_0), vc1_1]], gh⟩ = some (e, s) :=
  runX_ok an_law_CnfTells (Eq.trans (by kernel_rfl) h)

noncomputable def D_law_CnfTells_k1 (pg : Prg) (v1 : PV) (v2 : PV) (v3 : PV) (v11 : PV) (xc0_0 : Int) (vc0_1 : PV) (xc1_0 : Int) (vc1_1 : PV) (gh : List GObj) : Option (IExit × St) := isC (degr v2) (isC (degr v11) (onK (degr1 (degr1 vc0_1)) (arK (degr (degr v2)) (arK (degr (degr v11)) (
  callR gh true (callL pg 9 [(.agg [(.int .i64 xc0_0), (degr1 (degr1 vc0_1))]), (degr (degr v2)), (degr (degr v11))] gh) fun r1 gh2 => unT 2 r1 fun r3 r4 => isC (degr1 (degr1 r3)) (unI .i64 (degr1 (degr1 r4)) fun n5 => stK 2 v1 (stK 2 v2 (stK 2 v3 (stK 2 v11 (stK 2 (degr1 (degr1 r3)) (isC (degr v2) (isC (degr v1) (onK (degr1 (degr1 vc0_1)) (arK (degr (degr v2)) (arK (degr (degr v1)) (
  callR gh2 true (callL pg 9 [(.agg [(.int .i64 xc0_0), (degr1 (degr1 vc0_1))]), (degr (degr v2)), (degr (degr v1))] gh2) fun r6 gh7 => unT 2 r6 fun r8 r9 => isC (degr1 (degr1 r8)) (unI .i64 (degr1 (degr1 r9)) fun n10 => stK 2 v3 (stK 2 v11 (stK 2 (degr1 (degr1 r3)) (stK 2 (degr1 (degr1 r8)) (
  br 65 (n5 == 0) (stK 2 v3 (stK 2 v11 (stK 2 (degr1 (degr1 r3)) (stK 2 (degr1 (degr1 r8)) (
  br 68 (n10 == 0) (stK 2 v3 (stK 2 v11 (stK 2 (degr1 (degr1 r3)) (stK 2 (degr1 (degr1 r8)) (stK 2 v3 (stK 2 v11 (stK 2 (degr1 (degr1 r3)) (stK 2 (degr1 (degr1 r8)) (
  kR (runL pg f_law_CnfTells_l2 ⟨[(3, v3), (4, (.ptr false 0 0)), (9, (.ptr false 1 0)), (11, v11), (13, (degr1 (degr1 r3))), (14, (degr1 (degr1 r8))), (16, (.bool true)), (17, (.int .i64 0))], [[(.int .i64 xc0_0), vc0_1], [(.int .i64 xc1_0), vc1_1]], gh7⟩) (fun e s => nx e s (fun e s => po [3, 4, 9, 11] 2 e s (fun e s => nx e s (fun e s => some (e, s)) fun s => kR (runL pg f_law_CnfTells_k3 s) (fun e s => some (e, s)))) fun s => kR (runL pg f_law_CnfTells_k2 s) (fun e s => po [3, 4, 9, 11] 2 e s (fun e s => nx e s (fun e s => some (e, s)) fun s => kR (runL pg f_law_CnfTells_k3 s) (fun e s => some (e, s)))))))))))))) (stK 2 v3 (stK 2 v11 (
  kR (runL pg f_law_CnfTells_k3 ⟨[(3, v3), (4, (.ptr false 0 0)), (9, (.ptr false 1 0)), (11, v11)], [[(.int .i64 xc0_0), vc0_1], [(.int .i64 xc1_0), vc1_1]], gh7⟩) (fun e s => some (e, s)))))))))) (stK 2 v3 (stK 2 v11 (stK 2 (degr1 (degr1 r3)) (stK 2 (degr1 (degr1 r8)) (stK 2 v3 (stK 2 v11 (
  kR (runL pg f_law_CnfTells_k3 ⟨[(3, v3), (4, (.ptr false 0 0)), (9, (.ptr false 1 0)), (11, v11)], [[(.int .i64 xc0_0), vc0_1], [(.int .i64 xc1_0), vc1_1]], gh7⟩) (fun e s => some (e, s))))))))))))))))))))))))))))))

theorem D_law_CnfTells_k1_ok {pg : Prg} {gh : List GObj} {v1 : PV} {v2 : PV} {v3 : PV} {v11 : PV} {xc0_0 : Int} {vc0_1 : PV} {xc1_0 : Int} {vc1_1 : PV} {e : IExit} {s : St} (h : D_law_CnfTells_k1 pg v1 v2 v3 v11 xc0_0 vc0_1 xc1_0 vc1_1 gh = some (e, s)) : runL pg f_law_CnfTells_k1 ⟨[(1, v1), (2, v2), (3, v3), (4, (.ptr false 0 0)), (9, (.ptr false 1 0)), (11, v11)], [[(.int .i64 xc0_0), vc0_1], [(.int .i64 xc1_0), vc1_1]], gh⟩ = some (e, s) :=
  runX_ok an_law_CnfTells (Eq.trans (by kernel_rfl) h)

noncomputable def D_law_CnfTells_0 (pg : Prg) (x0_0 : Int) (v0_1 : PV) (v1 : PV) (v2 : PV) (v3 : PV) (gh : List GObj) : Option (IExit × St) := onK (degr1 v0_1) (stK 1 v1 (stK 1 v2 (stK 1 v3 (
  callR gh true (callL pg 18 [] gh) fun r1 gh2 => unB r1 fun b3 => 
  br 23 (!b3) (stK 1 v1 (stK 1 v2 (stK 1 v3 (some (.ret, ⟨[(8, (.bool false))], [], gh2⟩))))) (
  callR gh2 true (callL pg 5 [] gh2) fun r4 gh5 => unB r4 fun b6 => stK 1 v1 (stK 1 v2 (stK 1 v3 (
  br 26 (!b6) (some (.ret, ⟨[(8, (.bool false))], [], gh5⟩)) (isC (degr v1) (onK (degr1 (degr1 (degr1 v0_1))) (arK (degr (degr v1)) (
  callR gh5 true (callL pg 16 [(.agg [(.int .i64 x0_0), (degr1 (degr1 (degr1 v0_1)))]), (degr (degr v1))] gh5) fun r7 gh8 => unT 2 r7 fun r9 r10 => unA 2 (degr1 (degr1 r9)) fun c11 c12 => unI .i64 c11 fun n13 => unI .i64 (degr1 (degr1 r10)) fun n14 => onK c12 (stK 2 v1 (stK 2 v2 (stK 2 v3 (stK 2 v1 (stK 2 v2 (stK 2 v3 (
  br 34 (n14 != 0) (some (.ret, ⟨[(8, (.bool (n13 == 0)))], [], gh8⟩)) (stK 2 v1 (stK 2 v2 (stK 2 v3 (stK 2 v1 (stK 2 v2 (stK 2 v3 (
  kR (runL pg f_law_CnfTells_l1 ⟨[(1, v1), (2, v2), (3, v3), (4, (.ptr false 0 0)), (9, (.ptr false 1 0)), (11, (.sl true 1 [])), (12, (.int .i64 1))], [[(.int .i64 x0_0), (degr1 v0_1)], [(.int .i64 n13), c12]], gh8⟩) (fun e s => nx e s (fun e s => some (e, s)) fun s => kR (runL pg f_law_CnfTells_k1 s) (fun e s => some (e, s)))))))))))))))))))))))))))))

theorem D_law_CnfTells_0_ok {pg : Prg} {gh : List GObj} {x0_0 : Int} {v0_1 : PV} {v1 : PV} {v2 : PV} {v3 : PV} {e : IExit} {s : St} (h : D_law_CnfTells_0 pg x0_0 v0_1 v1 v2 v3 gh = some (e, s)) : runL pg f_law_CnfTells_0 ⟨[(0, (.agg [(.int .i64 x0_0), v0_1])), (1, v1), (2, v2), (3, v3)], [], gh⟩ = some (e, s) :=
  runX_ok an_law_CnfTells (Eq.trans (by kernel_rfl) h)

end Go.Lw
end
