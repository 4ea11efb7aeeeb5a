/-
  The texts that the proof stands on, part 6.
-/
import Derived.Test.YtmodipglnngghabEvalValuesE
set_option linter.unusedVariables false
set_option linter.unusedSimpArgs false
set_option linter.unnecessarySimpa false

/-! Words of the laws of functions: numbers, lists of numbers, wrapping. -/
section
namespace Go.Lw
open Go
def andV (x : Int × Int) : PV := .agg [I x.1, I x.2]
theorem wrap_id {n : Int} (h1 : -9223372036854775808 ≤ n) (h2 : n ≤ 9223372036854775807) : IntKind.i64.wrap n = n := by
  simp only [IntKind.wrap, IntKind.bits, IntKind.signed]
  simp
  omega
abbrev LI (xs : List Int) : PV := .sl false 1 (xs.map I)
abbrev Sz (n : Nat) : Prop := n ≤ 140737488355328
theorem wrap_nat {n : Nat} (h : Sz n) : IntKind.i64.wrap ((n : Int) + 1) = (n : Int) + 1 := wrap_id (by omega) (by simp only [Sz] at h; omega)
section
variable {kd : IntKind} {z b o n f : Nat} {g : Bool} {l : List PV}
@[simp] theorem one_int (x : Int) : PV.one (.int kd x) = true := rfl
@[simp] theorem one_bool (x : Bool) : PV.one (.bool x) = true := rfl
@[simp] theorem one_str (x : ByteArray) : PV.one (.str x) = true := rfl
@[simp] theorem one_sl : PV.one (.sl g z l) = true := rfl
@[simp] theorem one_bs : PV.one (.bs true b o n z) = true := rfl
@[simp] theorem one_ptr : PV.one (.ptr true b o) = true := rfl
@[simp] theorem one_nilp : PV.one .nilp = true := rfl
@[simp] theorem one_ep (e : PV) : PV.one (.ep e o) = true := rfl
@[simp] theorem one_mp : PV.one (.mp b) = true := rfl
@[simp] theorem one_nilm : PV.one .nilm = true := rfl
@[simp] theorem one_nilf : PV.one .nilf = true := rfl
@[simp] theorem one_nils : PV.one .nils = true := rfl
@[simp] theorem one_stk (b g n : Nat) : PV.one (.stk b g n) = true := rfl
@[simp] theorem one_fn : PV.one (.fn f l) = true := rfl
@[simp] theorem one_nilI : PV.one .nilI = true := rfl
@[simp] theorem one_someI : PV.one .someI = true := rfl
@[simp] theorem frz_int (G : List GObj) (x : Int) : frz n G (.int kd x) = .int kd x := rfl
@[simp] theorem frzR_int (G : List GObj) (x : Int) : frzR n G (.int kd x) = .int kd x := rfl
@[simp] theorem frz_bool (G : List GObj) (x : Bool) : frz n G (.bool x) = .bool x := rfl
@[simp] theorem frzR_bool (G : List GObj) (x : Bool) : frzR n G (.bool x) = .bool x := rfl
@[simp] theorem frz_str (G : List GObj) (x : ByteArray) : frz n G (.str x) = .str x := rfl
@[simp] theorem frzR_str (G : List GObj) (x : ByteArray) : frzR n G (.str x) = .str x := rfl
@[simp] theorem frz_sl (G : List GObj)  : frz n G (.sl g z l) = .sl g z l := rfl
@[simp] theorem frzR_sl (G : List GObj)  : frzR n G (.sl g z l) = .sl g z l := rfl
@[simp] theorem frz_agg (G : List GObj)  : frz n G (.agg l) = .agg l := rfl
@[simp] theorem frzR_agg (G : List GObj)  : frzR n G (.agg l) = .agg l := rfl
@[simp] theorem frz_ptr (G : List GObj)  : frz n G (.ptr g b o) = .ptr g b o := rfl
@[simp] theorem frzR_ptr (G : List GObj)  : frzR n G (.ptr g b o) = .ptr g b o := rfl
@[simp] theorem frz_nilp (G : List GObj)  : frz n G (.nilp) = .nilp := rfl
@[simp] theorem frzR_nilp (G : List GObj)  : frzR n G (.nilp) = .nilp := rfl
@[simp] theorem frz_ep (G : List GObj) (e : PV) : frz n G (.ep e o) = .ep e o := rfl
@[simp] theorem frzR_ep (G : List GObj) (e : PV) : frzR n G (.ep e o) = .ep e o := rfl
@[simp] theorem frz_mp (G : List GObj)  : frz n G (.mp b) = .mp b := rfl
@[simp] theorem frzR_mp (G : List GObj)  : frzR n G (.mp b) = .mp b := rfl
@[simp] theorem frz_nilm (G : List GObj)  : frz n G (.nilm) = .nilm := rfl
@[simp] theorem frzR_nilm (G : List GObj)  : frzR n G (.nilm) = .nilm := rfl
@[simp] theorem frz_nilf (G : List GObj)  : frz n G (.nilf) = .nilf := rfl
@[simp] theorem frzR_nilf (G : List GObj)  : frzR n G (.nilf) = .nilf := rfl
@[simp] theorem frz_nils (G : List GObj)  : frz n G (.nils) = .nils := rfl
@[simp] theorem frzR_nils (G : List GObj)  : frzR n G (.nils) = .nils := rfl
@[simp] theorem frz_stk (G : List GObj) (b g i : Nat) : frz n G (.stk b g i) = .stk b g i := rfl
@[simp] theorem frzR_stk (G : List GObj) (b g i : Nat) : frzR n G (.stk b g i) = .stk b g i := rfl
@[simp] theorem frz_fn (G : List GObj)  : frz n G (.fn f l) = .fn f l := rfl
@[simp] theorem frzR_fn (G : List GObj)  : frzR n G (.fn f l) = .fn f l := rfl
@[simp] theorem frz_nilI (G : List GObj)  : frz n G (.nilI) = .nilI := rfl
@[simp] theorem frzR_nilI (G : List GObj)  : frzR n G (.nilI) = .nilI := rfl
@[simp] theorem frz_someI (G : List GObj)  : frz n G (.someI) = .someI := rfl
@[simp] theorem frzR_someI (G : List GObj)  : frzR n G (.someI) = .someI := rfl
@[simp] theorem frzR_tup (G : List GObj) : frzR n G (.tup l) = .tup (l.map (frz n G)) := rfl
@[simp] theorem frzR_bs (G : List GObj) (i : Nat) : frzR n G (.bs g b o i z) = frz n G (.bs g b o i z) := rfl
theorem frz_made {n b off k : Nat} {gh : List GObj} {cs : List PV} (h : gh[b]? = some (.cells cs)) (h1 : n ≤ b) (h2 : off + k ≤ cs.length) : frz n gh (.bs true b off k 1) = .sl false 1 (((cs.drop off).take k).map degr1) := by
  simp [frz, h, h1, h2]
@[simp] theorem aok_int (x : Int) : argOk (.int kd x) = true := rfl
@[simp] theorem aok_bool (x : Bool) : argOk (.bool x) = true := rfl
@[simp] theorem aok_str (x : ByteArray) : argOk (.str x) = true := rfl
@[simp] theorem aok_sl : argOk (.sl g z l) = true := rfl
@[simp] theorem aok_bs : argOk (.bs true b o n z) = true := rfl
@[simp] theorem aok_ptr : argOk (.ptr true b o) = true := rfl
@[simp] theorem aok_nilp : argOk .nilp = true := rfl
@[simp] theorem aok_ep (e : PV) : argOk (.ep e o) = true := rfl
@[simp] theorem aok_mp : argOk (.mp b) = true := rfl
@[simp] theorem aok_nilm : argOk .nilm = true := rfl
@[simp] theorem aok_nilf : argOk .nilf = true := rfl
@[simp] theorem aok_nils : argOk .nils = true := rfl
@[simp] theorem aok_stk (b g n : Nat) : argOk (.stk b g n) = true := rfl
@[simp] theorem aok_fn : argOk (.fn f l) = true := rfl
@[simp] theorem aok_nilI : argOk .nilI = true := rfl
@[simp] theorem aok_someI : argOk .someI = true := rfl
@[simp] theorem aok_agg : argOk (.agg l) = l.all PV.one := rfl
@[simp] theorem noG_int (x : Int) : PV.noG (.int kd x) = true := rfl
@[simp] theorem noG_bool (x : Bool) : PV.noG (.bool x) = true := rfl
@[simp] theorem noG_str (x : ByteArray) : PV.noG (.str x) = true := rfl
@[simp] theorem noG_sl : PV.noG (.sl g z l) = noGs l := rfl
@[simp] theorem noG_agg : PV.noG (.agg l) = noGs l := rfl
@[simp] theorem noG_tup : PV.noG (.tup l) = noGs l := rfl
@[simp] theorem noGs_nil : noGs [] = true := rfl
@[simp] theorem noGs_cons (x : PV) : noGs (x :: l) = (x.noG && noGs l) := rfl
end
section
variable {nl z b o n f : Nat} {g : Bool} {l : List PV} {kd : IntKind}
@[simp] theorem stays_int (x : Int) : stays nl (.int kd x) = true := rfl
@[simp] theorem stays_bool (x : Bool) : stays nl (.bool x) = true := rfl
@[simp] theorem stays_str (x : ByteArray) : stays nl (.str x) = true := rfl
@[simp] theorem stays_sl : stays nl (.sl g z l) = true := rfl
@[simp] theorem stays_agg : stays nl (.agg l) = true := rfl
@[simp] theorem stays_bst : stays nl (.bs true b o n z) = true := rfl
@[simp] theorem stays_stk (b g n : Nat) : stays nl (.stk b g n) = true := rfl
@[simp] theorem stays_ptrt : stays nl (.ptr true b o) = true := rfl
@[simp] theorem stays_ptrf : stays nl (.ptr false b o) = decide (b < nl) := rfl
@[simp] theorem stays_nilp : stays nl .nilp = true := rfl
@[simp] theorem stays_mp : stays nl (.mp b) = true := rfl
@[simp] theorem stays_fn : stays nl (.fn f l) = true := rfl
end
@[simp] theorem beqI (a b : Int) : (a == b) = decide (a = b) := by
  by_cases h : a = b <;> simp [h]
@[simp] theorem bneI (a b : Int) : (a != b) = !decide (a = b) := by
  by_cases h : a = b <;> simp [bne, h]
section
variable {R : Type} {a b c d e f : PV}
@[simp] theorem unT_1 (k : PV → Option R) : unT (R := R) 1 (.tup [a]) k = k a := rfl
@[simp] theorem unT_2 (k : PV → PV → Option R) : unT (R := R) 2 (.tup [a, b]) k = k a b := rfl
@[simp] theorem unT_3 (k : PV → PV → PV → Option R) : unT (R := R) 3 (.tup [a, b, c]) k = k a b c := rfl
@[simp] theorem unT_4 (k : PV → PV → PV → PV → Option R) : unT (R := R) 4 (.tup [a, b, c, d]) k = k a b c d := rfl
@[simp] theorem unT_5 (k : PV → PV → PV → PV → PV → Option R) : unT (R := R) 5 (.tup [a, b, c, d, e]) k = k a b c d e := rfl
@[simp] theorem unT_6 (k : PV → PV → PV → PV → PV → PV → Option R) : unT (R := R) 6 (.tup [a, b, c, d, e, f]) k = k a b c d e f := rfl
@[simp] theorem unA_1 (k : PV → Option R) : unA (R := R) 1 (.agg [a]) k = k a := rfl
@[simp] theorem unA_2 (k : PV → PV → Option R) : unA (R := R) 2 (.agg [a, b]) k = k a b := rfl
@[simp] theorem unA_3 (k : PV → PV → PV → Option R) : unA (R := R) 3 (.agg [a, b, c]) k = k a b c := rfl
@[simp] theorem unA_4 (k : PV → PV → PV → PV → Option R) : unA (R := R) 4 (.agg [a, b, c, d]) k = k a b c d := rfl
@[simp] theorem unA_5 (k : PV → PV → PV → PV → PV → Option R) : unA (R := R) 5 (.agg [a, b, c, d, e]) k = k a b c d e := rfl
@[simp] theorem unA_6 (k : PV → PV → PV → PV → PV → PV → Option R) : unA (R := R) 6 (.agg [a, b, c, d, e, f]) k = k a b c d e f := rfl
end
def mapI (l : List (Int × Int)) : List (PV × PV) := l.map fun x => (I x.1, I x.2)
def setI : List (Int × Int) → Int → Int → List (Int × Int)
  | [], k, v => [(k, v)]
  | (a, u) :: l, k, v => if k = a then (k, v) :: l else (a, u) :: setI l k v
def findI : List (Int × Int) → Int → Option Int
  | [], _ => none
  | (a, u) :: l, k => if k = a then some u else findI l k
@[simp] theorem isKey_int (kn : Nat) (x : Int) (kd : IntKind) : isKey kn (.int kd x) = (kn == 0) := rfl
@[simp] theorem isKey_agg (kn : Nat) (l : List PV) : isKey kn (.agg l) = (kn != 0 && l.length == kn) := rfl
@[simp] theorem mset_mapI (l : List (Int × Int)) (k v : Int) : mset 0 (mapI l) (I k) (I v) = some (mapI (setI l k v)) := by
  induction l with
  | nil => rfl
  | cons x l ih =>
    obtain ⟨a, u⟩ := x
    by_cases h : k = a
    · simp [mapI, setI, mset, sameKey, h]
    · have : mset 0 (l.map fun x => (I x.1, I x.2)) (I k) (I v) = some (mapI (setI l k v)) := ih
      simp [mapI, setI, mset, sameKey, beq_false_of_ne h, h, this]
@[simp] theorem mfind_mapI (l : List (Int × Int)) (k : Int) : mfind 0 (mapI l) (I k) = some ((findI l k).map I) := by
  induction l with
  | nil => rfl
  | cons x l ih =>
    obtain ⟨a, u⟩ := x
    have : mfind 0 (l.map fun x => (I x.1, I x.2)) (I k) = some ((findI l k).map I) := ih
    by_cases h : k = a
    · simp [mapI, findI, mfind, sameKey, h]
    · simp [mapI, findI, mfind, sameKey, beq_false_of_ne h, h, this]
theorem muX_last {R : Type} (gh : List GObj) (l : List (Int × Int)) (k v : Int) (f : List GObj → Option R) :
    muX (gh ++ [.map (mapI l)]) 0 (.mp gh.length) (I k) (I v) f = f (gh ++ [.map (mapI (setI l k v))]) := by
  simp [mset_mapI, isKey]
theorem lkX_last {R : Type} (gh : List GObj) (l : List (Int × Int)) (k : Int) (f : Option PV → Option R) :
    lkX (gh ++ [.map (mapI l)]) 0 (.mp gh.length) (I k) f = f ((findI l k).map I) := by
  simp [mfind_mapI, isKey]
end Go.Lw
end

/-! Numbers: cut to a width, bit by bit. -/
section
namespace Go.Lw
open Go
theorem wrap_def (x : Int) : IntKind.i64.wrap x = (x + 9223372036854775808) % 18446744073709551616 - 9223372036854775808 := by
  simp only [IntKind.wrap, IntKind.bits, IntKind.signed]
  simp
  omega
theorem bv_nat {A : Nat} (h : A < 18446744073709551616) : (BitVec.ofInt 64 (A : Int)).toNat = A := by
  rw [BitVec.toNat_ofInt]
  omega
theorem iAnd_nat {A B : Nat} (ha : A < 65536) (hb : B < 65536) : iAnd .i64 A B = ((A &&& B : Nat) : Int) := by
  have : A &&& B < 65536 := Nat.and_lt_two_pow (n := 16) A hb
  unfold iAnd
  rw [BitVec.toNat_and]
  show IntKind.i64.wrap (((BitVec.ofInt 64 (A : Int)).toNat &&& (BitVec.ofInt 64 (B : Int)).toNat : Nat) : Int) = _
  rw [bv_nat (by omega), bv_nat (by omega)]
  exact wrap_id (by omega) (by omega)
theorem iOr_nat {A B : Nat} (ha : A < 65536) (hb : B < 65536) : iOr .i64 A B = ((A ||| B : Nat) : Int) := by
  have : A ||| B < 65536 := Nat.or_lt_two_pow (n := 16) ha hb
  unfold iOr
  rw [BitVec.toNat_or]
  show IntKind.i64.wrap (((BitVec.ofInt 64 (A : Int)).toNat ||| (BitVec.ofInt 64 (B : Int)).toNat : Nat) : Int) = _
  rw [bv_nat (by omega), bv_nat (by omega)]
  exact wrap_id (by omega) (by omega)
theorem iXor_nat {A B : Nat} (ha : A < 65536) (hb : B < 65536) : iXor .i64 A B = ((A ^^^ B : Nat) : Int) := by
  have : A ^^^ B < 65536 := Nat.xor_lt_two_pow (n := 16) ha hb
  unfold iXor
  rw [BitVec.toNat_xor]
  show IntKind.i64.wrap (((BitVec.ofInt 64 (A : Int)).toNat ^^^ (BitVec.ofInt 64 (B : Int)).toNat : Nat) : Int) = _
  rw [bv_nat (by omega), bv_nat (by omega)]
  exact wrap_id (by omega) (by omega)
theorem ipow {w : Nat} (hw : w ≤ 8) : 1 ≤ (2 : Int) ^ w ∧ (2 : Int) ^ w ≤ 256 := by
  have : ∀ v : Fin 9, 1 ≤ (2 : Int) ^ v.val ∧ (2 : Int) ^ v.val ≤ 256 := by decide
  exact this ⟨w, by omega⟩
theorem iAnd_mask (x : Int) {w : Nat} (hw : w ≤ 8) : iAnd .i64 x (2 ^ w - 1 : Int) = x % (2 ^ w : Int) := by
  have h1 : (2 : Nat) ^ w ≤ 2 ^ 8 := Nat.pow_le_pow_right (by decide) hw
  have h0 : 1 ≤ (2 : Nat) ^ w := Nat.one_le_two_pow
  have e : (2 ^ w - 1 : Int) = ((2 ^ w - 1 : Nat) : Int) := by
    rw [Int.natCast_sub h0]; simp
  unfold iAnd
  rw [BitVec.toNat_and, e]
  show IntKind.i64.wrap (((BitVec.ofInt 64 x).toNat &&& (BitVec.ofInt 64 ((2 ^ w - 1 : Nat) : Int)).toNat : Nat) : Int) = _
  rw [bv_nat (by omega), Nat.and_two_pow_sub_one_eq_mod, BitVec.toNat_ofInt]
  have h2 : (2 : Nat) ^ w ∣ 18446744073709551616 := Nat.pow_dvd_pow (n := 64) 2 (by omega)
  have h3 : (x % 18446744073709551616).toNat % 2 ^ w < 2 ^ w := Nat.mod_lt _ (by omega)
  show IntKind.i64.wrap ((((x % ((2 ^ 64 : Nat) : Int)).toNat % 2 ^ w : Nat)) : Int) = _
  rw [show ((2 ^ 64 : Nat) : Int) = 18446744073709551616 from rfl, wrap_id (by omega) (by omega)]
  rw [Int.natCast_emod, Int.toNat_of_nonneg (Int.emod_nonneg _ (by decide))]
  have h4 : ((2 ^ w : Nat) : Int) ∣ ((18446744073709551616 : Nat) : Int) := Int.natCast_dvd_natCast.2 h2
  have h5 := Int.emod_emod_of_dvd x h4
  rw [Int.natCast_pow] at h5 ⊢
  exact h5
theorem iShl_one {w : Nat} (hw : w ≤ 8) : iShl .i64 1 (w : Int) = 2 ^ w := by
  have : ∀ v : Fin 9, iShl .i64 1 (v.val : Int) = 2 ^ v.val := by decide
  exact this ⟨w, by omega⟩
theorem iNot_nat {A : Nat} (h : A < 256) : iNot .i64 (A : Int) = -1 - A := by
  have : ∀ v : Fin 256, iNot .i64 (v.val : Int) = -1 - v.val := by decide +kernel
  exact this ⟨A, h⟩
theorem wrap_emod (x : Int) {w : Nat} (hw : w ≤ 8) : (IntKind.i64.wrap x) % (2 ^ w : Int) = x % (2 ^ w : Int) := by
  rw [wrap_def]
  have : w = 0 ∨ w = 1 ∨ w = 2 ∨ w = 3 ∨ w = 4 ∨ w = 5 ∨ w = 6 ∨ w = 7 ∨ w = 8 := by omega
  rcases this with rfl | rfl | rfl | rfl | rfl | rfl | rfl | rfl | rfl <;> simp <;> omega
theorem mask_wrap {w : Nat} (hw : w ≤ 8) : IntKind.i64.wrap (iShl .i64 1 (w : Int) - 1) = 2 ^ w - 1 := by
  rw [iShl_one hw]
  have := ipow hw
  exact wrap_id (by omega) (by omega)
theorem iShl_emod {A b w : Nat} (hw : w ≤ 8) (hb : w ≤ b) : iShl .i64 (A : Int) (b : Int) % (2 ^ w : Int) = 0 := by
  unfold iShl
  rw [wrap_emod _ hw]
  have : (2 : Int) ^ w ∣ (A : Int) * 2 ^ (min (b : Int).toNat 64) := by
    refine Int.dvd_trans ?_ (Int.dvd_mul_left _ _)
    exact ⟨2 ^ (min (b : Int).toNat 64 - w), by rw [← Int.pow_add]; congr 1; simp; omega⟩
  exact Int.emod_eq_zero_of_dvd this
theorem pow_lt {w : Nat} (hw : w ≤ 8) : (2 : Nat) ^ w ≤ 256 := Nat.pow_le_pow_right (n := 2) (by decide) hw
theorem iShl_small {A b : Nat} (ha : A < 256) (hb : b ≤ 8) : iShl .i64 (A : Int) (b : Int) = (A * 2 ^ b : Nat) := by
  unfold iShl
  have h1 := pow_lt hb
  have h2 : A * 2 ^ b ≤ 256 * 256 := Nat.mul_le_mul (by omega) h1
  have e : (A : Int) * 2 ^ (min (b : Int).toNat IntKind.i64.bits) = ((A * 2 ^ b : Nat) : Int) := by
    have : min (b : Int).toNat IntKind.i64.bits = b := by
      show min (b : Int).toNat 64 = b
      simp; omega
    rw [this]; simp
  rw [e]
  exact wrap_id (by omega) (by omega)
theorem iShr_nat (A b : Nat) (ha : A < 2 ^ 64) : iShr .i64 (A : Int) (b : Int) = (A / 2 ^ b : Nat) := by
  unfold iShr
  rw [show min (b : Int).toNat IntKind.i64.bits = min b 64 by simp [IntKind.bits]]
  by_cases h : b ≤ 64
  · rw [Nat.min_eq_left h, Int.fdiv_eq_ediv_of_nonneg _ (Int.pow_nonneg (by decide))]
    simp
  · rw [Nat.min_eq_right (by omega), Int.fdiv_eq_ediv_of_nonneg _ (Int.pow_nonneg (by decide))]
    have h3 : A < 2 ^ b := Nat.lt_of_lt_of_le ha (Nat.pow_le_pow_right (by decide) (by omega))
    rw [Nat.div_eq_of_lt h3]
    have e : (2 : Int) ^ 64 = ((2 ^ 64 : Nat) : Int) := by simp
    rw [e, ← Int.natCast_ediv, Nat.div_eq_of_lt ha]
end Go.Lw
end
