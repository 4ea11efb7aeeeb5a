/-
  The texts that the proof stands on, part 9.
-/
import Derived.Test.YtmodipglnngghacSearchIsH
import Derived.Lib.SlicesCompact
set_option linter.unusedVariables false
set_option linter.unusedSimpArgs false
set_option linter.unnecessarySimpa false

/-! slices.Sort and slices.Compact of a stack of numbers, told as they are. -/
section
namespace Go.Lw
open Go
def unInts : List PV → Option (List Int)
  | [] => some []
  | .int .i64 n :: r => (unInts r).map (n :: ·)
  | _ => none
def insI (x : Int) : List Int → List Int
  | [] => [x]
  | y :: l => if x ≤ y then x :: y :: l else y :: insI x l
def isortI : List Int → List Int
  | [] => []
  | x :: l => insI x (isortI l)
theorem insI_perm (x : Int) : ∀ l : List Int, (insI x l).Perm (x :: l)
  | [] => List.Perm.refl _
  | y :: l => by
    unfold insI
    split
    · exact List.Perm.refl _
    · exact ((insI_perm x l).cons y).trans (List.Perm.swap x y l)
theorem isortI_perm : ∀ l : List Int, (isortI l).Perm l
  | [] => List.Perm.refl _
  | x :: l => (insI_perm x _).trans ((isortI_perm l).cons x)
theorem insI_sorted (x : Int) : ∀ {l : List Int}, l.Pairwise (· ≤ ·) → (insI x l).Pairwise (· ≤ ·)
  | [], _ => by simp [insI]
  | y :: l, h => by
    obtain ⟨h1, h2⟩ := List.pairwise_cons.1 h
    unfold insI
    split
    · rename_i hxy
      refine List.pairwise_cons.2 ⟨fun z hz => ?_, h⟩
      rcases List.mem_cons.1 hz with rfl | hz
      · exact hxy
      · exact Int.le_trans hxy (h1 z hz)
    · rename_i hxy
      refine List.pairwise_cons.2 ⟨fun z hz => ?_, insI_sorted x h2⟩
      rcases List.mem_cons.1 ((insI_perm x l).mem_iff.1 hz) with rfl | hz
      · omega
      · exact h1 z hz
theorem isortI_sorted : ∀ l : List Int, (isortI l).Pairwise (· ≤ ·)
  | [] => List.Pairwise.nil
  | x :: l => insI_sorted x (isortI_sorted l)
theorem sorted_eq : ∀ {l m : List Int}, l.Perm m → l.Pairwise (· ≤ ·) → m.Pairwise (· ≤ ·) → l = m
  | [], m, h, _, _ => (List.nil_perm.1 h).symm
  | a :: l, [], h, _, _ => absurd (List.perm_nil.1 h) (by simp)
  | a :: l, b :: m, h, h1, h2 => by
    obtain ⟨a1, a2⟩ := List.pairwise_cons.1 h1
    obtain ⟨b1, b2⟩ := List.pairwise_cons.1 h2
    have hab : a = b := by
      have e1 : a ≤ b := by
        rcases List.mem_cons.1 (h.mem_iff.2 (List.mem_cons_self ..)) with e | e
        · omega
        · exact a1 b e
      have e2 : b ≤ a := by
        rcases List.mem_cons.1 (h.mem_iff.1 (List.mem_cons_self ..)) with e | e
        · omega
        · exact b1 a e
      omega
    subst hab
    rw [sorted_eq (List.Perm.cons_inv h) a2 b2]
theorem isortI_eq (l : List Int) : isortI l = l.mergeSort fun x y => decide (x ≤ y) := by
  refine sorted_eq ((isortI_perm l).trans (List.mergeSort_perm l _).symm) (isortI_sorted l) ?_
  have h := List.pairwise_mergeSort (le := fun x y : Int => decide (x ≤ y)) (fun a b d h1 h2 => by simp only [decide_eq_true_eq] at *; omega) (fun a b => by simp only [Bool.or_eq_true, decide_eq_true_eq]; omega) l
  exact h.imp fun h => by simpa using h
def libSortK : List PV → List GObj → Option (PV × List GObj)
  | [.stk b gen n], gh => match gh[b]? with
    | some (.stk g xs) => if g = gen ∧ n = xs.length ∧ n * 8 ≤ maxBytes then (unInts xs).map fun zs => (.tup [], gh.set b (.stk g ((isortI zs).map (PV.int .i64)))) else none
    | _ => none
  | [.sl _ 1 []], gh => some (.tup [], gh)
  | _, _ => none
def libCompactK : List PV → List GObj → Option (PV × List GObj)
  | [.stk b gen n], gh => match gh[b]? with
    | some (.stk g xs) => if g = gen ∧ n = xs.length ∧ n * 8 ≤ maxBytes then (unInts xs).map fun zs => (.stk b gen (Lib.compact zs).length, gh.set b (.stk g ((Lib.compact zs).map (PV.int .i64)))) else none
    | _ => none
  | [.sl _ 1 []], gh => some (.sl false 1 [], gh)
  | _, _ => none
theorem unInts_map : ∀ (zs : List Int), unInts (zs.map (PV.int .i64)) = some zs
  | [] => rfl
  | z :: zs => by simp [unInts, unInts_map zs]
theorem unInts_eq : ∀ {xs : List PV} {zs : List Int}, unInts xs = some zs → xs = zs.map (PV.int .i64)
  | [], zs, h => by simp [unInts] at h; subst h; rfl
  | x :: xs, zs, h => by
    cases x with
    | int k n =>
      cases k <;> simp [unInts] at h
      obtain ⟨ys, h1, rfl⟩ := h
      rw [unInts_eq h1]
      rfl
    | _ => simp [unInts] at h
end Go.Lw
end

/-! All functions by number. Written by program (gen.py). -/
section
namespace Go.Lw
open Go
def pgL : List (Option IDef) := [
  none,
  none,
  none,
  none,
  none,
  none,
  none,
  none,
  none,
  none,
  none,
  none,
  none,
  none,
  none,
  none,
  none,
  none,
  none,
  none,
  none,
  none,
  none,
  none,
  none,
  none,
  none,
  none,
  none,
  none,
  none,
  none,
  none,
  none,
  none,
  none,
  none,
  none,
  none,
  none,
  none,
  none,
  none,
  none,
  none,
  some (.code f_ref_Has),
  none,
  none,
  none,
  none,
  some (.code f_ref_between),
  none,
  none,
  none,
  none,
  none,
  none,
  none,
  none,
  some (.code f_cnf_Check),
  none,
  none,
  none,
  none,
  none,
  none,
  none,
  none,
  none,
  none,
  some (.code f_cnf_Hold),
  none,
  none,
  none,
  none,
  none,
  none,
  none,
  none,
  none,
  none,
  none,
  none,
  none,
  none,
  none,
  some (.code f_slices_ContainsFunc_Lint_int),
  none,
  none,
  none,
  none,
  none,
  none,
  some (.code f_ref_CheckClauses),
  some (.code f_cnf_one),
  none,
  none,
  none,
  some (.code f_cnf_Hold_1),
  some (.code f_cnf_Hold_2),
  some (.code f_slices_ContainsFunc_LLint_Lint),
  none,
  none,
  none,
  none,
  none,
  none,
  none,
  none,
  none,
  none,
  some (.code f_slices_IndexFunc_Lint_int),
  some (.code f_ref_CheckClause),
  some (.code f_cnf_one_1),
  none,
  none,
  some (.code f_cnf_abs),
  some (.code f_slices_IndexFunc_LLint_Lint),
  none,
  none,
  none,
  some (.lib (libCloneK 8)),
  none,
  none,
  none,
  none,
  none,
  none,
  none,
  none,
  none,
  none,
  none,
  none,
  none,
  none,
  none,
  none,
  none,
  none,
  none,
  none,
  none,
  none,
  none,
  none,
  some (.code f_ref_FollowsOf),
  none,
  none,
  some (.code f_proof_Check),
  some (.code f_ref_CheckProof),
  some (.code f_ref_ProofOf),
  none,
  none,
  some (.code f_proof_open),
  some (.code f_proof_checker_follows),
  some (.code f_slices_Concat_LLint_Lint),
  some (.code f_proof_checker_add),
  some (.code f_proof_checker_put),
  some (.code f_proof_checker_must),
  some (.lib (libGrow 1 24)),
  some (.lib libSortK),
  some (.lib libCompactK),
  some (.code f_search_Solve),
  some (.code f_search_Raw),
  some (.code f_law_searchBegun),
  some (.code f_search_Is),
  some (.code f_ref_AnswerIs),
  some (.code f_ref_HoldsOf),
  some (.code f_search_begin),
  some (.code f_search_searcher_run),
  some (.code f_search_begin_1),
  some (.code f_slices_ContainsFunc_Lint_int_K),
  some (.code f_search_searcher_add),
  some (.code f_search_searcher_is),
  some (.code f_search_searcher_put),
  some (.code f_search_searcher_no),
  some (.code f_search_searcher_spread),
  some (.code f_search_searcher_choose),
  some (.code f_search_searcher_learn),
  some (.code f_search_searcher_back),
  some (.code f_math_bits_Len),
  some (.code f_math_bits_Len32),
  some (.code f_math_bits_Len64),
  some (.code f_slices_Contains_Lint_int_K),
  none,
  none,
  some (.code f_search_abs),
  some (.code f_search_searcher_visit),
  some (.code f_search_searcher_learn_1),
  some (.code f_slices_SortFunc_Lint_int),
  some (.code f_search_searcher_other),
  some (.code f_slices_pdqsortCmpFunc_int),
  some (.code f_slices_nextPowerOfTwo),
  some (.code f_slices_xorshift_Next),
  some (.code f_slices_insertionSortCmpFunc_int),
  some (.code f_slices_heapSortCmpFunc_int),
  some (.code f_slices_breakPatternsCmpFunc_int),
  some (.code f_slices_choosePivotCmpFunc_int),
  some (.code f_slices_reverseRangeCmpFunc_int),
  some (.code f_slices_partialInsertionSortCmpFunc_int),
  some (.code f_slices_partitionEqualCmpFunc_int),
  some (.code f_slices_partitionCmpFunc_int),
  some (.code f_slices_siftDownCmpFunc_int),
  some (.code f_slices_medianAdjacentCmpFunc_int),
  some (.code f_slices_medianCmpFunc_int),
  some (.code f_slices_order2CmpFunc_int),
  some (.code f_law_SearchIs),
  some (.code f_slices_IndexFunc_Lint_int_K),
  some (.code f_slices_Index_Lint_int_K),
  none,
  none,
  none,
  none,
  none,
  none,
  none,
  none,
  none,
  none,
  none,
  none,
  none,
  none,
  none,
  none,
  none,
  none,
  none,
  none,
  none,
  none,
  none,
  none,
  none,
  none,
  none,
  none,
  none,
  none,
  none,
  none,
  none,
  none,
  none,
  none,
  none,
  none,
  none,
  none,
  none,
  none,
  none,
  none,
  none,
  none,
  none,
  none,
  none,
  none,
  none,
  none,
  none,
  none,
  none,
  none,
  none,
  none,
  none,
  none,
  none,
  none,
  none,
  none,
  none,
  none,
  none,
  none,
  none,
  none,
  none,
  none,
  none,
  none,
  none,
  none,
  none,
  none,
  none,
  none,
  none,
  none,
  none,
  none,
  none,
  none,
  none,
  none,
  none,
  none,
  none,
  none,
  none,
  none,
  none,
  none,
  none,
  none,
  none,
  none,
  none,
  none,
  none,
  none,
  none,
  none,
  none,
  none,
  none,
  none,
  none,
  none,
  none,
  none,
  none,
  none,
  none,
  none,
  none,
  none,
  none,
  none,
  none,
  none,
  none,
  none,
  none,
  none,
  none,
  none,
  none,
  none,
  none]
def pg : Prg := fun f => (pgL[f]?).bind id
end Go.Lw
end

/-! Words of the laws of functions: numbers, lists of numbers, wrapping. -/
section
namespace Go.Lw
open Go
def InI (n : Int) : Prop := -9223372036854775808 ≤ n ∧ n ≤ 9223372036854775807
theorem wrap_id {n : Int} (h1 : -9223372036854775808 ≤ n) (h2 : n ≤ 9223372036854775807) : IntKind.i64.wrap n = n := by
  simp only [IntKind.wrap, IntKind.bits, IntKind.signed]
  simp
  omega
abbrev LI (xs : List Int) : PV := .sl false 1 (xs.map I)
abbrev Sz (n : Nat) : Prop := n ≤ 140737488355328
theorem wrap_nat {n : Nat} (h : Sz n) : IntKind.i64.wrap ((n : Int) + 1) = (n : Int) + 1 := wrap_id (by omega) (by simp only [Sz] at h; omega)
section
variable {kd : IntKind} {z b o n f : Nat} {g : Bool} {l : List PV}
@[simp] theorem one_int (x : Int) : PV.one (.int kd x) = true := rfl
@[simp] theorem one_bool (x : Bool) : PV.one (.bool x) = true := rfl
@[simp] theorem one_str (x : ByteArray) : PV.one (.str x) = true := rfl
@[simp] theorem one_sl : PV.one (.sl g z l) = true := rfl
@[simp] theorem one_bs : PV.one (.bs true b o n z) = true := rfl
@[simp] theorem one_ptr : PV.one (.ptr true b o) = true := rfl
@[simp] theorem one_nilp : PV.one .nilp = true := rfl
@[simp] theorem one_ep (e : PV) : PV.one (.ep e o) = true := rfl
@[simp] theorem one_mp : PV.one (.mp b) = true := rfl
@[simp] theorem one_nilm : PV.one .nilm = true := rfl
@[simp] theorem one_nilf : PV.one .nilf = true := rfl
@[simp] theorem one_nils : PV.one .nils = true := rfl
@[simp] theorem one_stk (b g n : Nat) : PV.one (.stk b g n) = true := rfl
@[simp] theorem one_fn : PV.one (.fn f l) = true := rfl
@[simp] theorem one_nilI : PV.one .nilI = true := rfl
@[simp] theorem one_someI : PV.one .someI = true := rfl
@[simp] theorem frz_int (G : List GObj) (x : Int) : frz n G (.int kd x) = .int kd x := rfl
@[simp] theorem frzR_int (G : List GObj) (x : Int) : frzR n G (.int kd x) = .int kd x := rfl
@[simp] theorem frz_bool (G : List GObj) (x : Bool) : frz n G (.bool x) = .bool x := rfl
@[simp] theorem frzR_bool (G : List GObj) (x : Bool) : frzR n G (.bool x) = .bool x := rfl
@[simp] theorem frz_str (G : List GObj) (x : ByteArray) : frz n G (.str x) = .str x := rfl
@[simp] theorem frzR_str (G : List GObj) (x : ByteArray) : frzR n G (.str x) = .str x := rfl
@[simp] theorem frz_sl (G : List GObj)  : frz n G (.sl g z l) = .sl g z l := rfl
@[simp] theorem frzR_sl (G : List GObj)  : frzR n G (.sl g z l) = .sl g z l := rfl
@[simp] theorem frz_agg (G : List GObj)  : frz n G (.agg l) = .agg l := rfl
@[simp] theorem frzR_agg (G : List GObj)  : frzR n G (.agg l) = .agg l := rfl
@[simp] theorem frz_ptr (G : List GObj)  : frz n G (.ptr g b o) = .ptr g b o := rfl
@[simp] theorem frzR_ptr (G : List GObj)  : frzR n G (.ptr g b o) = .ptr g b o := rfl
@[simp] theorem frz_nilp (G : List GObj)  : frz n G (.nilp) = .nilp := rfl
@[simp] theorem frzR_nilp (G : List GObj)  : frzR n G (.nilp) = .nilp := rfl
@[simp] theorem frz_ep (G : List GObj) (e : PV) : frz n G (.ep e o) = .ep e o := rfl
@[simp] theorem frzR_ep (G : List GObj) (e : PV) : frzR n G (.ep e o) = .ep e o := rfl
@[simp] theorem frz_mp (G : List GObj)  : frz n G (.mp b) = .mp b := rfl
@[simp] theorem frzR_mp (G : List GObj)  : frzR n G (.mp b) = .mp b := rfl
@[simp] theorem frz_nilm (G : List GObj)  : frz n G (.nilm) = .nilm := rfl
@[simp] theorem frzR_nilm (G : List GObj)  : frzR n G (.nilm) = .nilm := rfl
@[simp] theorem frz_nilf (G : List GObj)  : frz n G (.nilf) = .nilf := rfl
@[simp] theorem frzR_nilf (G : List GObj)  : frzR n G (.nilf) = .nilf := rfl
@[simp] theorem frz_nils (G : List GObj)  : frz n G (.nils) = .nils := rfl
@[simp] theorem frzR_nils (G : List GObj)  : frzR n G (.nils) = .nils := rfl
@[simp] theorem frz_stk (G : List GObj) (b g i : Nat) : frz n G (.stk b g i) = .stk b g i := rfl
@[simp] theorem frzR_stk (G : List GObj) (b g i : Nat) : frzR n G (.stk b g i) = .stk b g i := rfl
@[simp] theorem frz_fn (G : List GObj)  : frz n G (.fn f l) = .fn f l := rfl
@[simp] theorem frzR_fn (G : List GObj)  : frzR n G (.fn f l) = .fn f l := rfl
@[simp] theorem frz_nilI (G : List GObj)  : frz n G (.nilI) = .nilI := rfl
@[simp] theorem frzR_nilI (G : List GObj)  : frzR n G (.nilI) = .nilI := rfl
@[simp] theorem frz_someI (G : List GObj)  : frz n G (.someI) = .someI := rfl
@[simp] theorem frzR_someI (G : List GObj)  : frzR n G (.someI) = .someI := rfl
@[simp] theorem frzR_tup (G : List GObj) : frzR n G (.tup l) = .tup (l.map (frz n G)) := rfl
@[simp] theorem frzR_bs (G : List GObj) (i : Nat) : frzR n G (.bs g b o i z) = frz n G (.bs g b o i z) := rfl
@[simp] theorem aok_int (x : Int) : argOk (.int kd x) = true := rfl
@[simp] theorem aok_bool (x : Bool) : argOk (.bool x) = true := rfl
@[simp] theorem aok_str (x : ByteArray) : argOk (.str x) = true := rfl
@[simp] theorem aok_sl : argOk (.sl g z l) = true := rfl
@[simp] theorem aok_bs : argOk (.bs true b o n z) = true := rfl
@[simp] theorem aok_ptr : argOk (.ptr true b o) = true := rfl
@[simp] theorem aok_nilp : argOk .nilp = true := rfl
@[simp] theorem aok_ep (e : PV) : argOk (.ep e o) = true := rfl
@[simp] theorem aok_mp : argOk (.mp b) = true := rfl
@[simp] theorem aok_nilm : argOk .nilm = true := rfl
@[simp] theorem aok_nilf : argOk .nilf = true := rfl
@[simp] theorem aok_nils : argOk .nils = true := rfl
@[simp] theorem aok_stk (b g n : Nat) : argOk (.stk b g n) = true := rfl
@[simp] theorem aok_fn : argOk (.fn f l) = true := rfl
@[simp] theorem aok_nilI : argOk .nilI = true := rfl
@[simp] theorem aok_someI : argOk .someI = true := rfl
@[simp] theorem aok_agg : argOk (.agg l) = l.all PV.one := rfl
@[simp] theorem noG_int (x : Int) : PV.noG (.int kd x) = true := rfl
@[simp] theorem noG_bool (x : Bool) : PV.noG (.bool x) = true := rfl
@[simp] theorem noG_str (x : ByteArray) : PV.noG (.str x) = true := rfl
@[simp] theorem noG_sl : PV.noG (.sl g z l) = noGs l := rfl
@[simp] theorem noG_agg : PV.noG (.agg l) = noGs l := rfl
@[simp] theorem noG_tup : PV.noG (.tup l) = noGs l := rfl
@[simp] theorem noGs_nil : noGs [] = true := rfl
@[simp] theorem noGs_cons (x : PV) : noGs (x :: l) = (x.noG && noGs l) := rfl
end
section
variable {nl z b o n f : Nat} {g : Bool} {l : List PV} {kd : IntKind}
@[simp] theorem stays_int (x : Int) : stays nl (.int kd x) = true := rfl
@[simp] theorem stays_bool (x : Bool) : stays nl (.bool x) = true := rfl
@[simp] theorem stays_str (x : ByteArray) : stays nl (.str x) = true := rfl
@[simp] theorem stays_sl : stays nl (.sl g z l) = true := rfl
@[simp] theorem stays_agg : stays nl (.agg l) = true := rfl
@[simp] theorem stays_bst : stays nl (.bs true b o n z) = true := rfl
@[simp] theorem stays_stk (b g n : Nat) : stays nl (.stk b g n) = true := rfl
@[simp] theorem stays_ptrt : stays nl (.ptr true b o) = true := rfl
@[simp] theorem stays_ptrf : stays nl (.ptr false b o) = decide (b < nl) := rfl
@[simp] theorem stays_nilp : stays nl .nilp = true := rfl
@[simp] theorem stays_mp : stays nl (.mp b) = true := rfl
@[simp] theorem stays_fn : stays nl (.fn f l) = true := rfl
end
@[simp] theorem beqI (a b : Int) : (a == b) = decide (a = b) := by
  by_cases h : a = b <;> simp [h]
@[simp] theorem bneI (a b : Int) : (a != b) = !decide (a = b) := by
  by_cases h : a = b <;> simp [bne, h]
section
variable {R : Type} {a b c d e f : PV}
@[simp] theorem unT_1 (k : PV → Option R) : unT (R := R) 1 (.tup [a]) k = k a := rfl
@[simp] theorem unT_2 (k : PV → PV → Option R) : unT (R := R) 2 (.tup [a, b]) k = k a b := rfl
@[simp] theorem unT_3 (k : PV → PV → PV → Option R) : unT (R := R) 3 (.tup [a, b, c]) k = k a b c := rfl
@[simp] theorem unT_4 (k : PV → PV → PV → PV → Option R) : unT (R := R) 4 (.tup [a, b, c, d]) k = k a b c d := rfl
@[simp] theorem unT_5 (k : PV → PV → PV → PV → PV → Option R) : unT (R := R) 5 (.tup [a, b, c, d, e]) k = k a b c d e := rfl
@[simp] theorem unT_6 (k : PV → PV → PV → PV → PV → PV → Option R) : unT (R := R) 6 (.tup [a, b, c, d, e, f]) k = k a b c d e f := rfl
@[simp] theorem unA_1 (k : PV → Option R) : unA (R := R) 1 (.agg [a]) k = k a := rfl
@[simp] theorem unA_2 (k : PV → PV → Option R) : unA (R := R) 2 (.agg [a, b]) k = k a b := rfl
@[simp] theorem unA_3 (k : PV → PV → PV → Option R) : unA (R := R) 3 (.agg [a, b, c]) k = k a b c := rfl
@[simp] theorem unA_4 (k : PV → PV → PV → PV → Option R) : unA (R := R) 4 (.agg [a, b, c, d]) k = k a b c d := rfl
@[simp] theorem unA_5 (k : PV → PV → PV → PV → PV → Option R) : unA (R := R) 5 (.agg [a, b, c, d, e]) k = k a b c d e := rfl
@[simp] theorem unA_6 (k : PV → PV → PV → PV → PV → PV → Option R) : unA (R := R) 6 (.agg [a, b, c, d, e, f]) k = k a b c d e f := rfl
end
def mapI (l : List (Int × Int)) : List (PV × PV) := l.map fun x => (I x.1, I x.2)
def setI : List (Int × Int) → Int → Int → List (Int × Int)
  | [], k, v => [(k, v)]
  | (a, u) :: l, k, v => if k = a then (k, v) :: l else (a, u) :: setI l k v
def findI : List (Int × Int) → Int → Option Int
  | [], _ => none
  | (a, u) :: l, k => if k = a then some u else findI l k
@[simp] theorem isKey_int (kn : Nat) (x : Int) (kd : IntKind) : isKey kn (.int kd x) = (kn == 0) := rfl
@[simp] theorem isKey_agg (kn : Nat) (l : List PV) : isKey kn (.agg l) = (kn != 0 && l.length == kn) := rfl
@[simp] theorem mset_mapI (l : List (Int × Int)) (k v : Int) : mset 0 (mapI l) (I k) (I v) = some (mapI (setI l k v)) := by
  induction l with
  | nil => rfl
  | cons x l ih =>
    obtain ⟨a, u⟩ := x
    by_cases h : k = a
    · simp [mapI, setI, mset, sameKey, h]
    · have : mset 0 (l.map fun x => (I x.1, I x.2)) (I k) (I v) = some (mapI (setI l k v)) := ih
      simp [mapI, setI, mset, sameKey, beq_false_of_ne h, h, this]
@[simp] theorem mfind_mapI (l : List (Int × Int)) (k : Int) : mfind 0 (mapI l) (I k) = some ((findI l k).map I) := by
  induction l with
  | nil => rfl
  | cons x l ih =>
    obtain ⟨a, u⟩ := x
    have : mfind 0 (l.map fun x => (I x.1, I x.2)) (I k) = some ((findI l k).map I) := ih
    by_cases h : k = a
    · simp [mapI, findI, mfind, sameKey, h]
    · simp [mapI, findI, mfind, sameKey, beq_false_of_ne h, h, this]
end Go.Lw
end

/-! A clause as it is kept: in order, each number once. -/
section
namespace Go.Lw
open Go.Lib
def keepC (c : List Int) : List Int := Lib.compact (c.mergeSort fun x y => decide (x ≤ y))
theorem compact_mem {α : Type} [Inhabited α] [DecidableEq α] {zs : List α} {x : α} : x ∈ Lib.compact zs ↔ x ∈ zs := by
  unfold Lib.compact compactUpTo
  constructor
  · intro h
    obtain ⟨j, hj, rfl⟩ := List.mem_map.1 h
    have hj := List.mem_range.1 (List.mem_filter.1 hj).1
    simp [hj]
  · intro h
    obtain ⟨j, hj, rfl⟩ := List.mem_iff_getElem.1 h
    have key : ∀ (n : Nat) (hn : n < zs.length), zs[n] ∈ ((List.range zs.length).filter (keeps zs.toArray)).map (zs.toArray[·]!) := fun n => by
      induction n with
      | zero =>
        intro hn
        refine List.mem_map.2 ⟨0, List.mem_filter.2 ⟨List.mem_range.2 hn, by simp [keeps]⟩, by simp [hn]⟩
      | succ n ih =>
        intro hn
        by_cases he : zs[n + 1] = zs[n]
        · rw [he]; exact ih (by omega)
        · refine List.mem_map.2 ⟨n + 1, List.mem_filter.2 ⟨List.mem_range.2 hn, ?_⟩, by simp [hn]⟩
          have h1 : n < zs.length := by omega
          simp [keeps, hn, h1, he]
    exact key j hj
theorem sorted_le (c : List Int) : (c.mergeSort fun x y => decide (x ≤ y)).Pairwise (· ≤ ·) := by
  have h := List.pairwise_mergeSort (le := fun x y : Int => decide (x ≤ y)) (fun a b d h1 h2 => by simp only [decide_eq_true_eq] at *; omega) (fun a b => by simp only [Bool.or_eq_true, decide_eq_true_eq]; omega) c
  exact h.imp fun h => by simpa using h
theorem keepC_mem {c : List Int} {x : Int} : x ∈ keepC c ↔ x ∈ c := by
  unfold keepC
  rw [compact_mem, List.mem_mergeSort]
theorem keepC_lt (c : List Int) : (keepC c).Pairwise (· < ·) := by
  have hs := sorted_le c
  unfold keepC Lib.compact compactUpTo
  generalize c.mergeSort (fun x y => decide (x ≤ y)) = zs at *
  rw [List.pairwise_map]
  have hp : ((List.range zs.length).filter (keeps zs.toArray)).Pairwise (· < ·) := List.pairwise_lt_range.filter _
  refine List.Pairwise.imp_of_mem (fun {i j} hi hj hlt => ?_) hp
  have hi1 := List.mem_range.1 (List.mem_filter.1 hi).1
  have hj1 := List.mem_range.1 (List.mem_filter.1 hj).1
  have hk := (List.mem_filter.1 hj).2
  have hjm : j - 1 < zs.length := by omega
  simp only [keeps, decide_eq_true_eq] at hk
  rcases hk with hk | hk
  · omega
  have e1 : zs.toArray[j]! = zs[j] := by simp [hj1]
  have e2 : zs.toArray[j - 1]! = zs[j - 1] := by simp [hjm]
  have e3 : zs.toArray[i]! = zs[i] := by simp [hi1]
  rw [e1, e2] at hk
  rw [e1, e3]
  have h1 : zs[j - 1] ≤ zs[j] := List.pairwise_iff_getElem.1 hs (j - 1) j hjm hj1 (by omega)
  have h2 : zs[i] ≤ zs[j - 1] := by
    by_cases he : i = j - 1
    · subst he; exact Int.le_refl _
    · exact List.pairwise_iff_getElem.1 hs i (j - 1) hi1 hjm (by omega)
  omega
theorem keepC_nodup (c : List Int) : (keepC c).Nodup := (keepC_lt c).imp fun h => by omega
theorem keepC_len (c : List Int) : (keepC c).length ≤ c.length := by
  unfold keepC Lib.compact compactUpTo
  rw [List.length_map]
  refine Nat.le_trans (List.length_filter_le _ _) ?_
  simp
end Go.Lw
end
