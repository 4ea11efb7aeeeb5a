/-
  The texts that the proof stands on, part 9.
-/
import Derived.Test.YtmodipglnngghabBlastChecksH
import Derived.Lib.SlicesCompact
set_option linter.unusedVariables false
set_option linter.unusedSimpArgs false
set_option linter.unnecessarySimpa false

/-! slices.Sort and slices.Compact of a stack of numbers, told as they are. -/
section
namespace Go.Lw
open Go
end Go.Lw
end

/-! All functions by number. Written by program (gen.py). -/
section
namespace Go.Lw
open Go
def pgL : List (Option IDef) := [
  none,
  none,
  some (.code f_ref_CheckGraph),
  some (.code f_ref_IsLit),
  none,
  none,
  some (.code f_gates_Check),
  none,
  none,
  none,
  some (.code f_ref_AreLits),
  none,
  none,
  none,
  none,
  none,
  none,
  none,
  none,
  none,
  none,
  none,
  some (.code f_word_Fit),
  none,
  none,
  none,
  none,
  none,
  none,
  none,
  none,
  none,
  none,
  none,
  none,
  none,
  none,
  none,
  some (.code f_model_Check),
  none,
  none,
  none,
  none,
  none,
  none,
  none,
  none,
  some (.code f_gates_Is),
  some (.code f_gates_New),
  some (.code f_gates_Maker_And),
  some (.code f_ref_between),
  some (.code f_ref_AndAt),
  none,
  none,
  none,
  none,
  none,
  none,
  none,
  none,
  none,
  some (.code f_word_shapes),
  some (.code f_word_IsWidth),
  some (.code f_word_Takes),
  some (.code f_word_fits),
  some (.code f_word_IsWord),
  some (.code f_word_Raw),
  none,
  none,
  none,
  none,
  none,
  none,
  none,
  none,
  some (.code f_law_toggle),
  some (.code f_model_node),
  some (.code f_model_Bits),
  some (.code f_model_checker_lean),
  some (.code f_model_checker_pairs),
  some (.code f_model_checker_marks),
  some (.code f_model_Args),
  none,
  some (.lib (libClone 1 8)),
  none,
  some (.code f_gates_Is_1),
  some (.code f_slices_ContainsFunc_Lint_int),
  some (.lib (libClone 2 16)),
  some (.code f_gates_Nodes),
  none,
  none,
  none,
  none,
  none,
  none,
  none,
  some (.code f_word_do),
  none,
  none,
  none,
  none,
  some (.code f_model_Of),
  none,
  some (.code f_model_leaf),
  some (.code f_model_Widths),
  some (.code f_model_bits),
  some (.code f_model_checker_pair),
  some (.code f_slices_Concat_Lint_int),
  some (.code f_model_checker_marks_1),
  some (.code f_model_checker_marks_2),
  none,
  some (.code f_slices_IndexFunc_Lint_int),
  none,
  none,
  some (.code f_word_yes),
  some (.code f_word_signed),
  none,
  none,
  some (.code f_model_checker_is),
  some (.lib (libGrow 1 8)),
  none,
  some (.lib (libCloneK 8)),
  none,
  none,
  none,
  none,
  none,
  none,
  none,
  none,
  none,
  none,
  none,
  none,
  none,
  none,
  none,
  none,
  none,
  some (.code f_eval_Raw),
  none,
  none,
  none,
  some (.code f_eval_Raw_1),
  none,
  none,
  none,
  none,
  none,
  none,
  none,
  none,
  none,
  none,
  none,
  none,
  none,
  none,
  none,
  none,
  none,
  none,
  none,
  none,
  none,
  none,
  none,
  none,
  none,
  none,
  none,
  none,
  none,
  none,
  none,
  none,
  none,
  none,
  none,
  none,
  none,
  none,
  none,
  none,
  none,
  none,
  none,
  none,
  none,
  none,
  none,
  none,
  none,
  none,
  none,
  none,
  none,
  none,
  none,
  none,
  none,
  none,
  none,
  none,
  none,
  none,
  none,
  none,
  some (.code f_slices_IndexFunc_Lint_int_K),
  none,
  some (.code f_law_BlastChecks),
  some (.code f_law_blastBegun),
  some (.code f_blast_Check),
  some (.code f_ref_CheckCircuit),
  some (.code f_blast_Blast),
  some (.code f_blast_Check_1),
  none,
  some (.code f_blast_Raw),
  some (.code f_blast_blaster_node),
  some (.code f_blast_flip),
  some (.code f_blast_zeros),
  some (.code f_blast_blaster_sub),
  some (.code f_blast_each),
  some (.code f_blast_blaster_or),
  some (.code f_blast_blaster_xor),
  some (.code f_blast_blaster_sum),
  some (.code f_blast_blaster_mul),
  some (.code f_blast_blaster_over),
  some (.code f_blast_up),
  some (.code f_blast_blaster_shifted),
  some (.code f_blast_down),
  some (.code f_blast_not),
  some (.code f_blast_blaster_less),
  some (.code f_blast_turned),
  some (.code f_blast_blaster_picks),
  some (.code f_blast_wider),
  some (.code f_blast_flip_1),
  some (.code f_blast_blaster_picks_1),
  some (.code f_blast_blaster_pick),
  none,
  none,
  none,
  none,
  none,
  none,
  none,
  none,
  none,
  none,
  none,
  none,
  none,
  none,
  none,
  none,
  none,
  none,
  none,
  none,
  none,
  none,
  none,
  none,
  none,
  none,
  none,
  none,
  none,
  none,
  none,
  none,
  none,
  none,
  none,
  none,
  none,
  none,
  none,
  none,
  none,
  none,
  none,
  none,
  none,
  none,
  none,
  none,
  none,
  none,
  none,
  none,
  none,
  none,
  none,
  none,
  none,
  none,
  none,
  none,
  none,
  none,
  none,
  none,
  none,
  none,
  none,
  none,
  none,
  none,
  none,
  none,
  none,
  none,
  none,
  none,
  none,
  none,
  none,
  none,
  none,
  none,
  none,
  none,
  none,
  none,
  none,
  none,
  none,
  none,
  none,
  none,
  none,
  none,
  none,
  none,
  none,
  none,
  none,
  none,
  none,
  none,
  none,
  none,
  some (.code f_slices_DeleteFunc_Lint_int_K),
  some (.code f_slices_Concat_Lint_int_K)]
def pg : Prg := fun f => (pgL[f]?).bind id
end Go.Lw
end

/-! Words of the laws of functions: numbers, lists of numbers, wrapping. -/
section
namespace Go.Lw
open Go
def andV (x : Int × Int) : PV := .agg [I x.1, I x.2]
def graphV (ins : Int) (ands : List (Int × Int)) : PV := .agg [I ins, .sl false 2 (ands.map andV)]
theorem wrap_id {n : Int} (h1 : -9223372036854775808 ≤ n) (h2 : n ≤ 9223372036854775807) : IntKind.i64.wrap n = n := by
  simp only [IntKind.wrap, IntKind.bits, IntKind.signed]
  simp
  omega
abbrev LI (xs : List Int) : PV := .sl false 1 (xs.map I)
abbrev Sz (n : Nat) : Prop := n ≤ 140737488355328
theorem wrap_nat {n : Nat} (h : Sz n) : IntKind.i64.wrap ((n : Int) + 1) = (n : Int) + 1 := wrap_id (by omega) (by simp only [Sz] at h; omega)
section
variable {kd : IntKind} {z b o n f : Nat} {g : Bool} {l : List PV}
@[simp] theorem one_int (x : Int) : PV.one (.int kd x) = true := rfl
@[simp] theorem one_bool (x : Bool) : PV.one (.bool x) = true := rfl
@[simp] theorem one_str (x : ByteArray) : PV.one (.str x) = true := rfl
@[simp] theorem one_sl : PV.one (.sl g z l) = true := rfl
@[simp] theorem one_bs : PV.one (.bs true b o n z) = true := rfl
@[simp] theorem one_ptr : PV.one (.ptr true b o) = true := rfl
@[simp] theorem one_nilp : PV.one .nilp = true := rfl
@[simp] theorem one_ep (e : PV) : PV.one (.ep e o) = true := rfl
@[simp] theorem one_mp : PV.one (.mp b) = true := rfl
@[simp] theorem one_nilm : PV.one .nilm = true := rfl
@[simp] theorem one_nilf : PV.one .nilf = true := rfl
@[simp] theorem one_nils : PV.one .nils = true := rfl
@[simp] theorem one_sub (b g o n : Nat) : PV.one (.sub b g o n) = true := rfl
@[simp] theorem one_stk (b g n : Nat) : PV.one (.stk b g n) = true := rfl
@[simp] theorem one_fn : PV.one (.fn f l) = true := rfl
@[simp] theorem one_nilI : PV.one .nilI = true := rfl
@[simp] theorem one_someI : PV.one .someI = true := rfl
@[simp] theorem frz_int (G : List GObj) (x : Int) : frz n G (.int kd x) = .int kd x := rfl
@[simp] theorem frzR_int (G : List GObj) (x : Int) : frzR n G (.int kd x) = .int kd x := rfl
@[simp] theorem frz_bool (G : List GObj) (x : Bool) : frz n G (.bool x) = .bool x := rfl
@[simp] theorem frzR_bool (G : List GObj) (x : Bool) : frzR n G (.bool x) = .bool x := rfl
@[simp] theorem frz_str (G : List GObj) (x : ByteArray) : frz n G (.str x) = .str x := rfl
@[simp] theorem frzR_str (G : List GObj) (x : ByteArray) : frzR n G (.str x) = .str x := rfl
@[simp] theorem frz_sl (G : List GObj)  : frz n G (.sl g z l) = .sl g z l := rfl
@[simp] theorem frzR_sl (G : List GObj)  : frzR n G (.sl g z l) = .sl g z l := rfl
@[simp] theorem frz_agg (G : List GObj)  : frz n G (.agg l) = .agg l := rfl
@[simp] theorem frzR_agg (G : List GObj)  : frzR n G (.agg l) = .agg l := rfl
@[simp] theorem frz_ptr (G : List GObj)  : frz n G (.ptr g b o) = .ptr g b o := rfl
@[simp] theorem frzR_ptr (G : List GObj)  : frzR n G (.ptr g b o) = .ptr g b o := rfl
@[simp] theorem frz_nilp (G : List GObj)  : frz n G (.nilp) = .nilp := rfl
@[simp] theorem frzR_nilp (G : List GObj)  : frzR n G (.nilp) = .nilp := rfl
@[simp] theorem frz_ep (G : List GObj) (e : PV) : frz n G (.ep e o) = .ep e o := rfl
@[simp] theorem frzR_ep (G : List GObj) (e : PV) : frzR n G (.ep e o) = .ep e o := rfl
@[simp] theorem frz_mp (G : List GObj)  : frz n G (.mp b) = .mp b := rfl
@[simp] theorem frzR_mp (G : List GObj)  : frzR n G (.mp b) = .mp b := rfl
@[simp] theorem frz_nilm (G : List GObj)  : frz n G (.nilm) = .nilm := rfl
@[simp] theorem frzR_nilm (G : List GObj)  : frzR n G (.nilm) = .nilm := rfl
@[simp] theorem frz_nilf (G : List GObj)  : frz n G (.nilf) = .nilf := rfl
@[simp] theorem frzR_nilf (G : List GObj)  : frzR n G (.nilf) = .nilf := rfl
@[simp] theorem frz_nils (G : List GObj)  : frz n G (.nils) = .nils := rfl
@[simp] theorem frzR_nils (G : List GObj)  : frzR n G (.nils) = .nils := rfl
@[simp] theorem frz_stk (G : List GObj) (b g i : Nat) : frz n G (.stk b g i) = .stk b g i := rfl
@[simp] theorem frzR_stk (G : List GObj) (b g i : Nat) : frzR n G (.stk b g i) = .stk b g i := rfl
@[simp] theorem frz_fn (G : List GObj)  : frz n G (.fn f l) = .fn f l := rfl
@[simp] theorem frzR_fn (G : List GObj)  : frzR n G (.fn f l) = .fn f l := rfl
@[simp] theorem frz_nilI (G : List GObj)  : frz n G (.nilI) = .nilI := rfl
@[simp] theorem frzR_nilI (G : List GObj)  : frzR n G (.nilI) = .nilI := rfl
@[simp] theorem frz_someI (G : List GObj)  : frz n G (.someI) = .someI := rfl
@[simp] theorem frzR_someI (G : List GObj)  : frzR n G (.someI) = .someI := rfl
@[simp] theorem frzR_tup (G : List GObj) : frzR n G (.tup l) = .tup (l.map (frz n G)) := rfl
@[simp] theorem frzR_bs (G : List GObj) (i : Nat) : frzR n G (.bs g b o i z) = frz n G (.bs g b o i z) := rfl
@[simp] theorem aok_int (x : Int) : argOk (.int kd x) = true := rfl
@[simp] theorem aok_bool (x : Bool) : argOk (.bool x) = true := rfl
@[simp] theorem aok_str (x : ByteArray) : argOk (.str x) = true := rfl
@[simp] theorem aok_sl : argOk (.sl g z l) = true := rfl
@[simp] theorem aok_bs : argOk (.bs true b o n z) = true := rfl
@[simp] theorem aok_ptr : argOk (.ptr true b o) = true := rfl
@[simp] theorem aok_nilp : argOk .nilp = true := rfl
@[simp] theorem aok_ep (e : PV) : argOk (.ep e o) = true := rfl
@[simp] theorem aok_mp : argOk (.mp b) = true := rfl
@[simp] theorem aok_nilm : argOk .nilm = true := rfl
@[simp] theorem aok_nilf : argOk .nilf = true := rfl
@[simp] theorem aok_nils : argOk .nils = true := rfl
@[simp] theorem aok_sub (b g o n : Nat) : argOk (.sub b g o n) = true := rfl
@[simp] theorem aok_stk (b g n : Nat) : argOk (.stk b g n) = true := rfl
@[simp] theorem aok_fn : argOk (.fn f l) = true := rfl
@[simp] theorem aok_nilI : argOk .nilI = true := rfl
@[simp] theorem aok_someI : argOk .someI = true := rfl
@[simp] theorem aok_agg : argOk (.agg l) = l.all PV.one := rfl
@[simp] theorem noG_int (x : Int) : PV.noG (.int kd x) = true := rfl
@[simp] theorem noG_bool (x : Bool) : PV.noG (.bool x) = true := rfl
@[simp] theorem noG_str (x : ByteArray) : PV.noG (.str x) = true := rfl
@[simp] theorem noG_sl : PV.noG (.sl g z l) = noGs l := rfl
@[simp] theorem noG_agg : PV.noG (.agg l) = noGs l := rfl
@[simp] theorem noG_tup : PV.noG (.tup l) = noGs l := rfl
@[simp] theorem noGs_nil : noGs [] = true := rfl
@[simp] theorem noGs_cons (x : PV) : noGs (x :: l) = (x.noG && noGs l) := rfl
end
section
variable {nl z b o n f : Nat} {g : Bool} {l : List PV} {kd : IntKind}
@[simp] theorem stays_int (x : Int) : stays nl (.int kd x) = true := rfl
@[simp] theorem stays_bool (x : Bool) : stays nl (.bool x) = true := rfl
@[simp] theorem stays_str (x : ByteArray) : stays nl (.str x) = true := rfl
@[simp] theorem stays_sl : stays nl (.sl g z l) = true := rfl
@[simp] theorem stays_agg : stays nl (.agg l) = true := rfl
@[simp] theorem stays_bst : stays nl (.bs true b o n z) = true := rfl
@[simp] theorem stays_sub (b g o n : Nat) : stays nl (.sub b g o n) = true := rfl
@[simp] theorem stays_stk (b g n : Nat) : stays nl (.stk b g n) = true := rfl
@[simp] theorem stays_ptrt : stays nl (.ptr true b o) = true := rfl
@[simp] theorem stays_ptrf : stays nl (.ptr false b o) = decide (b < nl) := rfl
@[simp] theorem stays_nilp : stays nl .nilp = true := rfl
@[simp] theorem stays_mp : stays nl (.mp b) = true := rfl
@[simp] theorem stays_fn : stays nl (.fn f l) = true := rfl
end
@[simp] theorem beqI (a b : Int) : (a == b) = decide (a = b) := by
  by_cases h : a = b <;> simp [h]
@[simp] theorem bneI (a b : Int) : (a != b) = !decide (a = b) := by
  by_cases h : a = b <;> simp [bne, h]
section
variable {R : Type} {a b c d e f : PV}
@[simp] theorem unT_1 (k : PV → Option R) : unT (R := R) 1 (.tup [a]) k = k a := rfl
@[simp] theorem unT_2 (k : PV → PV → Option R) : unT (R := R) 2 (.tup [a, b]) k = k a b := rfl
@[simp] theorem unT_3 (k : PV → PV → PV → Option R) : unT (R := R) 3 (.tup [a, b, c]) k = k a b c := rfl
@[simp] theorem unT_4 (k : PV → PV → PV → PV → Option R) : unT (R := R) 4 (.tup [a, b, c, d]) k = k a b c d := rfl
@[simp] theorem unT_5 (k : PV → PV → PV → PV → PV → Option R) : unT (R := R) 5 (.tup [a, b, c, d, e]) k = k a b c d e := rfl
@[simp] theorem unT_6 (k : PV → PV → PV → PV → PV → PV → Option R) : unT (R := R) 6 (.tup [a, b, c, d, e, f]) k = k a b c d e f := rfl
@[simp] theorem unA_1 (k : PV → Option R) : unA (R := R) 1 (.agg [a]) k = k a := rfl
@[simp] theorem unA_2 (k : PV → PV → Option R) : unA (R := R) 2 (.agg [a, b]) k = k a b := rfl
@[simp] theorem unA_3 (k : PV → PV → PV → Option R) : unA (R := R) 3 (.agg [a, b, c]) k = k a b c := rfl
@[simp] theorem unA_4 (k : PV → PV → PV → PV → Option R) : unA (R := R) 4 (.agg [a, b, c, d]) k = k a b c d := rfl
@[simp] theorem unA_5 (k : PV → PV → PV → PV → PV → Option R) : unA (R := R) 5 (.agg [a, b, c, d, e]) k = k a b c d e := rfl
@[simp] theorem unA_6 (k : PV → PV → PV → PV → PV → PV → Option R) : unA (R := R) 6 (.agg [a, b, c, d, e, f]) k = k a b c d e f := rfl
end
def mapI (l : List (Int × Int)) : List (PV × PV) := l.map fun x => (I x.1, I x.2)
def setI : List (Int × Int) → Int → Int → List (Int × Int)
  | [], k, v => [(k, v)]
  | (a, u) :: l, k, v => if k = a then (k, v) :: l else (a, u) :: setI l k v
def findI : List (Int × Int) → Int → Option Int
  | [], _ => none
  | (a, u) :: l, k => if k = a then some u else findI l k
@[simp] theorem isKey_int (kn : Nat) (x : Int) (kd : IntKind) : isKey kn (.int kd x) = (kn == 0) := rfl
@[simp] theorem isKey_agg (kn : Nat) (l : List PV) : isKey kn (.agg l) = (kn != 0 && l.length == kn) := rfl
@[simp] theorem mset_mapI (l : List (Int × Int)) (k v : Int) : mset 0 (mapI l) (I k) (I v) = some (mapI (setI l k v)) := by
  induction l with
  | nil => rfl
  | cons x l ih =>
    obtain ⟨a, u⟩ := x
    by_cases h : k = a
    · simp [mapI, setI, mset, sameKey, h]
    · have : mset 0 (l.map fun x => (I x.1, I x.2)) (I k) (I v) = some (mapI (setI l k v)) := ih
      simp [mapI, setI, mset, sameKey, beq_false_of_ne h, h, this]
@[simp] theorem mfind_mapI (l : List (Int × Int)) (k : Int) : mfind 0 (mapI l) (I k) = some ((findI l k).map I) := by
  induction l with
  | nil => rfl
  | cons x l ih =>
    obtain ⟨a, u⟩ := x
    have : mfind 0 (l.map fun x => (I x.1, I x.2)) (I k) = some ((findI l k).map I) := ih
    by_cases h : k = a
    · simp [mapI, findI, mfind, sameKey, h]
    · simp [mapI, findI, mfind, sameKey, beq_false_of_ne h, h, this]
end Go.Lw
end
