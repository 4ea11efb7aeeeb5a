/-
  The texts that the proof stands on, part 15.
-/
import Derived.Test.YtmodipglnngghacGreatDoorTracePlaysN
import Derived.KernelRfl
set_option linter.unusedVariables false
set_option linter.unusedSimpArgs false
set_option linter.unnecessarySimpa false

/-! What the document makes of words, kind by kind. -/
section
namespace Go.Lw
open Go
theorem jwr (W A B C N W0 W1 W2 : Nat) (gh : List GObj) : q6 pg 4 W A B C N W0 W1 W2 gh = callR gh true (callL pg 27 [I W] gh) (fun r1 gh2 => unI .i64 r1 fun n3 => (some (.ret, ⟨[(14, (.int .i64 (IntKind.i64.wrap ((IntKind.i64.wrap (n3 - 1)) - (A : Int)))))], [], gh2⟩))) := rfl
theorem jws (W A B C N W0 W1 W2 : Nat) (gh : List GObj) : q6 pg 5 W A B C N W0 W1 W2 gh = callR gh true (callL pg 27 [I W] gh) (fun r1 gh2 => unI .i64 r1 fun n3 => (gd (decide ((n3 : Int) ≠ 0)) (some (.ret, ⟨[(14, (.int .i64 (Int.tmod (IntKind.i64.wrap (n3 - (A : Int))) n3)))], [], gh2⟩)))) := rfl
theorem jwt (W A B C N W0 W1 W2 : Nat) (gh : List GObj) : q6 pg 6 W A B C N W0 W1 W2 gh = callR gh true (callL pg 27 [I W] gh) (fun r1 gh2 => unI .i64 r1 fun n3 => ( callR gh2 true (callL pg 67 [(.int .i64 (A : Int)), (.int .i64 (B : Int)), (.int .i64 (W : Int)), (.agg [(.int .i64 0), (.int .i64 0), (.int .i64 0), (.int .i64 1)])] gh2) fun r4 gh5 => unI .i64 r4 fun n6 => some (.ret, ⟨[(14, (.int .i64 n6))], [], gh5⟩))) := rfl
theorem jwu (W A B C N W0 W1 W2 : Nat) (gh : List GObj) : q6 pg 7 W A B C N W0 W1 W2 gh = callR gh true (callL pg 27 [I W] gh) (fun r1 gh2 => unI .i64 r1 fun n3 => ( callR gh2 true (callL pg 67 [(.int .i64 (A : Int)), (.int .i64 (B : Int)), (.int .i64 (W : Int)), (.agg [(.int .i64 0), (.int .i64 1), (.int .i64 1), (.int .i64 1)])] gh2) fun r7 gh8 => unI .i64 r7 fun n9 => some (.ret, ⟨[(14, (.int .i64 n9))], [], gh8⟩))) := rfl
theorem jwv (W A B C N W0 W1 W2 : Nat) (gh : List GObj) : q6 pg 8 W A B C N W0 W1 W2 gh = callR gh true (callL pg 27 [I W] gh) (fun r1 gh2 => unI .i64 r1 fun n3 => ( callR gh2 true (callL pg 67 [(.int .i64 (A : Int)), (.int .i64 (B : Int)), (.int .i64 (W : Int)), (.agg [(.int .i64 0), (.int .i64 1), (.int .i64 1), (.int .i64 0)])] gh2) fun r10 gh11 => unI .i64 r10 fun n12 => some (.ret, ⟨[(14, (.int .i64 n12))], [], gh11⟩))) := rfl
theorem jww (W A B C N W0 W1 W2 : Nat) (gh : List GObj) : q6 pg 9 W A B C N W0 W1 W2 gh = callR gh true (callL pg 27 [I W] gh) (fun r1 gh2 => unI .i64 r1 fun n3 => (gd (decide ((n3 : Int) ≠ 0)) (some (.ret, ⟨[(14, (.int .i64 (Int.tmod (IntKind.i64.wrap ((A : Int) + (B : Int))) n3)))], [], gh2⟩)))) := rfl
theorem jwx (W A B C N W0 W1 W2 : Nat) (gh : List GObj) : q6 pg 10 W A B C N W0 W1 W2 gh = callR gh true (callL pg 27 [I W] gh) (fun r1 gh2 => unI .i64 r1 fun n3 => (gd (decide ((n3 : Int) ≠ 0)) (some (.ret, ⟨[(14, (.int .i64 (Int.tmod (IntKind.i64.wrap ((IntKind.i64.wrap ((A : Int) + n3)) - (B : Int))) n3)))], [], gh2⟩)))) := rfl
theorem jwy (W A B C N W0 W1 W2 : Nat) (gh : List GObj) : q6 pg 11 W A B C N W0 W1 W2 gh = callR gh true (callL pg 27 [I W] gh) (fun r1 gh2 => unI .i64 r1 fun n3 => (gd (decide ((n3 : Int) ≠ 0)) (some (.ret, ⟨[(14, (.int .i64 (Int.tmod (IntKind.i64.wrap ((A : Int) * (B : Int))) n3)))], [], gh2⟩)))) := rfl
theorem jwz (W A B C N W0 W1 W2 : Nat) (gh : List GObj) : q6 pg 12 W A B C N W0 W1 W2 gh = callR gh true (callL pg 27 [I W] gh) (fun r1 gh2 => unI .i64 r1 fun n3 => ( br 79 ((B : Int) == 0) (some (.ret, ⟨[(14, (.int .i64 (IntKind.i64.wrap (n3 - 1))))], [], gh2⟩)) (gd (decide (((B : Int) : Int) ≠ 0)) (some (.ret, ⟨[(14, (.int .i64 (IntKind.i64.wrap (Int.tdiv (A : Int) (B : Int)))))], [], gh2⟩))))) := rfl
theorem jx0 (W A B C N W0 W1 W2 : Nat) (gh : List GObj) : q6 pg 13 W A B C N W0 W1 W2 gh = callR gh true (callL pg 27 [I W] gh) (fun r1 gh2 => unI .i64 r1 fun n3 => ( br 88 ((B : Int) == 0) (some (.ret, ⟨[(14, (.int .i64 (A : Int)))], [], gh2⟩)) (gd (decide (((B : Int) : Int) ≠ 0)) (some (.ret, ⟨[(14, (.int .i64 (Int.tmod (A : Int) (B : Int))))], [], gh2⟩))))) := rfl
theorem jx1 (W A B C N W0 W1 W2 : Nat) (gh : List GObj) : q6 pg 14 W A B C N W0 W1 W2 gh = callR gh true (callL pg 27 [I W] gh) (fun r1 gh2 => unI .i64 r1 fun n3 => ( br 97 (decide ((W : Int) ≤ (B : Int))) (some (.ret, ⟨[(14, (.int .i64 0))], [], gh2⟩)) ( callR gh2 true (callL pg 27 [(.int .i64 (B : Int))] gh2) fun r13 gh14 => unI .i64 r13 fun n15 => gd (decide ((n3 : Int) ≠ 0)) (some (.ret, ⟨[(14, (.int .i64 (Int.tmod (IntKind.i64.wrap ((A : Int) * n15)) n3)))], [], gh14⟩))))) := rfl
theorem jx2 (W A B C N W0 W1 W2 : Nat) (gh : List GObj) : q6 pg 15 W A B C N W0 W1 W2 gh = callR gh true (callL pg 27 [I W] gh) (fun r1 gh2 => unI .i64 r1 fun n3 => ( br 108 (decide ((W : Int) ≤ (B : Int))) (some (.ret, ⟨[(14, (.int .i64 0))], [], gh2⟩)) ( callR gh2 true (callL pg 27 [(.int .i64 (B : Int))] gh2) fun r16 gh17 => unI .i64 r16 fun n18 => gd (decide ((n18 : Int) ≠ 0)) (some (.ret, ⟨[(14, (.int .i64 (IntKind.i64.wrap (Int.tdiv (A : Int) n18))))], [], gh17⟩))))) := rfl
theorem jx3 (W A B C N W0 W1 W2 : Nat) (gh : List GObj) : q6 pg 16 W A B C N W0 W1 W2 gh = callR gh true (callL pg 27 [I W] gh) (fun r1 gh2 => unI .i64 r1 fun n3 => ( callR gh2 true (callL pg 68 [(.bool ((A : Int) == (B : Int)))] gh2) fun r19 gh20 => unI .i64 r19 fun n21 => some (.ret, ⟨[(14, (.int .i64 n21))], [], gh20⟩))) := rfl
theorem jx4 (W A B C N W0 W1 W2 : Nat) (gh : List GObj) : q6 pg 17 W A B C N W0 W1 W2 gh = callR gh true (callL pg 27 [I W] gh) (fun r1 gh2 => unI .i64 r1 fun n3 => ( callR gh2 true (callL pg 68 [(.bool (decide ((A : Int) < (B : Int))))] gh2) fun r22 gh23 => unI .i64 r22 fun n24 => some (.ret, ⟨[(14, (.int .i64 n24))], [], gh23⟩))) := rfl
theorem jx5 (W A B C N W0 W1 W2 : Nat) (gh : List GObj) : q6 pg 18 W A B C N W0 W1 W2 gh = callR gh true (callL pg 27 [I W] gh) (fun r1 gh2 => unI .i64 r1 fun n3 => ( callR gh2 true (callL pg 69 [(.int .i64 (A : Int)), (.int .i64 (W0 : Int))] gh2) fun r25 gh26 => unI .i64 r25 fun n27 =>  callR gh26 true (callL pg 69 [(.int .i64 (B : Int)), (.int .i64 (W1 : Int))] gh26) fun r28 gh29 => unI .i64 r28 fun n30 =>  callR gh29 true (callL pg 68 [(.bool (decide (n27 < n30)))] gh29) fun r31 gh32 => unI .i64 r31 fun n33 => some (.ret, ⟨[(14, (.int .i64 n33))], [], gh32⟩))) := rfl
theorem jx6 (W A B C N W0 W1 W2 : Nat) (gh : List GObj) : q6 pg 19 W A B C N W0 W1 W2 gh = callR gh true (callL pg 27 [I W] gh) (fun r1 gh2 => unI .i64 r1 fun n3 => ( br 140 ((A : Int) == 1) (some (.ret, ⟨[(14, (.int .i64 (B : Int)))], [], gh2⟩)) (some (.ret, ⟨[(14, (.int .i64 (C : Int)))], [], gh2⟩)))) := rfl
theorem jx7 (W A B C N W0 W1 W2 : Nat) (gh : List GObj) : q6 pg 20 W A B C N W0 W1 W2 gh = callR gh true (callL pg 27 [I W] gh) (fun r1 gh2 => unI .i64 r1 fun n3 => ( callR gh2 true (callL pg 27 [(.int .i64 (W1 : Int))] gh2) fun r34 gh35 => unI .i64 r34 fun n36 => some (.ret, ⟨[(14, (.int .i64 (IntKind.i64.wrap ((IntKind.i64.wrap ((A : Int) * n36)) + (B : Int)))))], [], gh35⟩))) := rfl
theorem jx8 (W A B C N W0 W1 W2 : Nat) (gh : List GObj) : q6 pg 21 W A B C N W0 W1 W2 gh = callR gh true (callL pg 27 [I W] gh) (fun r1 gh2 => unI .i64 r1 fun n3 => ( callR gh2 true (callL pg 27 [(.int .i64 (N : Int))] gh2) fun r37 gh38 => unI .i64 r37 fun n39 => gd (decide ((n39 : Int) ≠ 0)) (gd (decide ((n3 : Int) ≠ 0)) (some (.ret, ⟨[(14, (.int .i64 (Int.tmod (IntKind.i64.wrap (Int.tdiv (A : Int) n39)) n3)))], [], gh38⟩))))) := rfl
theorem jx9 (W A B C N W0 W1 W2 : Nat) (gh : List GObj) : q6 pg 23 W A B C N W0 W1 W2 gh = callR gh true (callL pg 27 [I W] gh) (fun r1 gh2 => unI .i64 r1 fun n3 => ( callR gh2 true (callL pg 69 [(.int .i64 (A : Int)), (.int .i64 (W0 : Int))] gh2) fun r40 gh41 => unI .i64 r40 fun n42 => gd (decide ((n3 : Int) ≠ 0)) (some (.ret, ⟨[(14, (.int .i64 (Int.tmod (IntKind.i64.wrap (n42 + n3)) n3)))], [], gh41⟩)))) := rfl
theorem jxa (W A B C N W0 W1 W2 : Nat) (gh : List GObj) : q6 pg 22 W A B C N W0 W1 W2 gh = callR gh true (callL pg 27 [I W] gh) (fun r1 gh2 => unI .i64 r1 fun n3 => some (.ret, ⟨[(14, (.int .i64 (A : Int)))], [], gh2⟩)) := rfl
theorem jpx (k a b c n w0 w1 : Int) {W : Nat} (hW : W ≤ 8) : rawOf k W a b c n w0 w1 = doOf k a b c n w0 w1 % ((2 ^ W : Nat) : Int) := by
 unfold rawOf
 rw [jvk hW, jvh _ hW, jj9]
theorem jjh (x : Int) (p : Nat) (h : 0 ≤ x) : Int.tmod x (p : Int) = x % (p : Int) := Int.tmod_eq_emod_of_nonneg h
theorem made4 {W A : Nat} (hW : 1 ≤ W ∧ W ≤ 8) (hA : A < 2 ^ W) : IntKind.i64.wrap (IntKind.i64.wrap (((2 ^ W : Nat) : Int) - 1) - (A : Int)) = iNot .i64 A % ((2 ^ W : Nat) : Int) := by
 have h1 := pow_lt hW.2
 rw [jvi (by omega), ji5 (n := ((2 ^ W : Nat) : Int) - 1) (by omega) (by omega), ji5 (by omega) (by omega)]
 rcases jkd hW with rfl | rfl | rfl | rfl | rfl | rfl | rfl | rfl <;> simp at hA ⊢ <;> omega
theorem made5 {W A : Nat} (hW : 1 ≤ W ∧ W ≤ 8) (hA : A < 2 ^ W) : Int.tmod (IntKind.i64.wrap (((2 ^ W : Nat) : Int) - (A : Int))) ((2 ^ W : Nat) : Int) = IntKind.i64.wrap (0 - (A : Int)) % ((2 ^ W : Nat) : Int) := by
 have h1 := pow_lt hW.2
 rw [ji5 (by omega) (by omega), ji5 (by omega) (by omega), jjh _ _ (by omega)]
 rcases jkd hW with rfl | rfl | rfl | rfl | rfl | rfl | rfl | rfl <;> simp at hA ⊢ <;> omega
theorem made9 {W A B : Nat} (hW : 1 ≤ W ∧ W ≤ 8) (hA : A < 2 ^ W) (hB : B < 2 ^ W) : Int.tmod (IntKind.i64.wrap ((A : Int) + B)) ((2 ^ W : Nat) : Int) = IntKind.i64.wrap ((A : Int) + B) % ((2 ^ W : Nat) : Int) := by
 have h1 := pow_lt hW.2
 rw [ji5 (by omega) (by omega), jjh _ _ (by omega)]
theorem made10 {W A B : Nat} (hW : 1 ≤ W ∧ W ≤ 8) (hA : A < 2 ^ W) (hB : B < 2 ^ W) : Int.tmod (IntKind.i64.wrap (IntKind.i64.wrap ((A : Int) + ((2 ^ W : Nat) : Int)) - B)) ((2 ^ W : Nat) : Int) = IntKind.i64.wrap ((A : Int) - B) % ((2 ^ W : Nat) : Int) := by
 have h1 := pow_lt hW.2
 rw [ji5 (n := (A : Int) + ((2 ^ W : Nat) : Int)) (by omega) (by omega), ji5 (by omega) (by omega), ji5 (by omega) (by omega), jjh _ _ (by omega)]
 rcases jkd hW with rfl | rfl | rfl | rfl | rfl | rfl | rfl | rfl <;> simp at hA hB ⊢ <;> omega
theorem made11 {W A B : Nat} (hW : 1 ≤ W ∧ W ≤ 8) (hA : A < 2 ^ W) (hB : B < 2 ^ W) : Int.tmod (IntKind.i64.wrap ((A : Int) * B)) ((2 ^ W : Nat) : Int) = IntKind.i64.wrap ((A : Int) * B) % ((2 ^ W : Nat) : Int) := by
 have h1 := pow_lt hW.2
 have h2 : A * B ≤ 256 * 256 := Nat.mul_le_mul (by omega) (by omega)
 have e : (A : Int) * B = ((A * B : Nat) : Int) := by simp
 rw [e, ji5 (by omega) (by omega), jjh _ _ (by omega)]
theorem jja {W : Nat} {x : Int} (h0 : 0 ≤ x) (h : x < ((2 ^ W : Nat) : Int)) : x % ((2 ^ W : Nat) : Int) = x := Int.emod_eq_of_lt h0 h
theorem jxb {W : Nat} (hW : 1 ≤ W ∧ W ≤ 8) : IntKind.i64.wrap (((2 ^ W : Nat) : Int) - 1) = (-1) % ((2 ^ W : Nat) : Int) := by
 rcases jkd hW with rfl | rfl | rfl | rfl | rfl | rfl | rfl | rfl <;> decide
theorem made12 {W A B : Nat} (hW : 1 ≤ W ∧ W ≤ 8) (hA : A < 2 ^ W) : IntKind.i64.wrap (Int.tdiv (A : Int) B) = IntKind.i64.wrap (Int.tdiv (A : Int) B) % ((2 ^ W : Nat) : Int) := by
 have h1 := pow_lt hW.2
 have e0 : Int.tdiv (A : Int) (B : Int) = ((A / B : Nat) : Int) := (Int.ofNat_tdiv _ _).symm
 have h2 : A / B ≤ A := Nat.div_le_self _ _
 rw [e0]
 generalize A / B = q at h2
 rw [ji5 (by omega) (by omega), jja (by omega) (by omega)]
theorem made13 {W A B : Nat} (hA : A < 2 ^ W) : Int.tmod (A : Int) B = Int.tmod (A : Int) B % ((2 ^ W : Nat) : Int) := by
 have e0 : Int.tmod (A : Int) (B : Int) = ((A % B : Nat) : Int) := (Int.ofNat_tmod _ _).symm
 have h2 : A % B ≤ A := Nat.mod_le _ _
 rw [e0]
 generalize A % B = q at h2
 rw [jja (by omega) (by omega)]
theorem made14 {W A B : Nat} (hW : 1 ≤ W ∧ W ≤ 8) (hA : A < 2 ^ W) (hB : B < W) : Int.tmod (IntKind.i64.wrap ((A : Int) * ((2 ^ B : Nat) : Int))) ((2 ^ W : Nat) : Int) = iShl .i64 A B % ((2 ^ W : Nat) : Int) := by
 have h1 := pow_lt hW.2
 have h2 := pow_lt (show B ≤ 8 by omega)
 have h3 : A * 2 ^ B ≤ 256 * 256 := Nat.mul_le_mul (by omega) h2
 rw [jp9 (by omega) (by omega), ← Int.natCast_mul]
 generalize A * 2 ^ B = q at h3
 rw [ji5 (by omega) (by omega), jjh _ _ (by omega)]
theorem made15 {W A B : Nat} (hW : 1 ≤ W ∧ W ≤ 8) (hA : A < 2 ^ W) : IntKind.i64.wrap (Int.tdiv (A : Int) ((2 ^ B : Nat) : Int)) = iShr .i64 A B % ((2 ^ W : Nat) : Int) := by
 have h1 := pow_lt hW.2
 have h2 : A / 2 ^ B ≤ A := Nat.div_le_self _ _
 have e0 : Int.tdiv (A : Int) ((2 ^ B : Nat) : Int) = ((A / 2 ^ B : Nat) : Int) := (Int.ofNat_tdiv _ _).symm
 rw [jma _ _ (by omega), e0]
 generalize A / 2 ^ B = q at h2
 rw [ji5 (by omega) (by omega), jja (by omega) (by omega)]
theorem made15z {W A B : Nat} (hA : A < 2 ^ W) (hW : W ≤ 8) (hB : W ≤ B) : iShr .i64 A B % ((2 ^ W : Nat) : Int) = 0 := by
 have h1 := pow_lt hW
 rw [jma _ _ (by omega), Nat.div_eq_of_lt (Nat.lt_of_lt_of_le hA (Nat.pow_le_pow_right (by decide) hB))]
 simp
theorem made20 {A B W0 W1 : Nat} (hA : A < 2 ^ W0) (hB : B < 2 ^ W1) (h0 : W0 + W1 ≤ 8) : IntKind.i64.wrap (IntKind.i64.wrap ((A : Int) * ((2 ^ W1 : Nat) : Int)) + B) = iOr .i64 (iShl .i64 A W1) B % ((2 ^ (W0 + W1) : Nat) : Int) := by
 have h1 := pow_lt (show W1 ≤ 8 by omega)
 have h2 := pow_lt (show W0 ≤ 8 by omega)
 have h3 := pow_lt h0
 have h4 : (A + 1) * 2 ^ W1 ≤ 2 ^ W0 * 2 ^ W1 := Nat.mul_le_mul_right _ hA
 rw [← Nat.pow_add, Nat.succ_mul] at h4
 rw [jp9 (by omega) (by omega), jp8 (by omega) (by omega), ← Int.natCast_mul]
 have e : A * 2 ^ W1 ||| B = A * 2 ^ W1 + B := by rw [Nat.mul_comm, Nat.two_pow_add_eq_or_of_lt hB]
 rw [e]
 generalize A * 2 ^ W1 = q at h4
 rw [ji5 (n := (q : Int)) (by omega) (by omega), ji5 (by omega) (by omega), jja (by omega) (by omega)]
 omega
theorem made21 {W A N : Nat} (hW : 1 ≤ W ∧ W ≤ 8) (hA : A < 256) : Int.tmod (IntKind.i64.wrap (Int.tdiv (A : Int) ((2 ^ N : Nat) : Int))) ((2 ^ W : Nat) : Int) = iShr .i64 A N % ((2 ^ W : Nat) : Int) := by
 have h2 : A / 2 ^ N ≤ A := Nat.div_le_self _ _
 have e0 : Int.tdiv (A : Int) ((2 ^ N : Nat) : Int) = ((A / 2 ^ N : Nat) : Int) := (Int.ofNat_tdiv _ _).symm
 rw [jma _ _ (by omega), e0]
 generalize A / 2 ^ N = q at h2
 rw [ji5 (by omega) (by omega), jjh _ _ (by omega)]
theorem made23 {W A W0 : Nat} (hW : 1 ≤ W ∧ W ≤ 8) (h0 : 1 ≤ W0 ∧ W0 ≤ W) (hA : A < 2 ^ W0) : Int.tmod (IntKind.i64.wrap (sgnOf A W0 + ((2 ^ W : Nat) : Int))) ((2 ^ W : Nat) : Int) = sgnOf A W0 % ((2 ^ W : Nat) : Int) := by
 have h1 := pow_lt hW.2
 have h2 : 2 ^ W0 ≤ 2 ^ W := Nat.pow_le_pow_right (by decide) h0.2
 rw [jpb (by omega) hA]
 split <;> rw [ji5 (by omega) (by omega), jjh _ _ (by omega), Int.add_emod_right]
theorem ne_two (W : Nat) : (((2 ^ W : Nat) : Int) ≠ 0) := by
 have := Nat.one_le_two_pow (n := W); omega
theorem Made_D {k : Int} {W A B C N W0 W1 W2 : Nat} {gh : List GObj} {s : Int} (hk : 4 ≤ k ∧ k < 24) (hs : shapeOf k = some s) (hf : fitsOf s W N W0 W1 W2 = true) (hW : 1 ≤ W ∧ W ≤ 8) (h0 : 1 ≤ W0 ∧ W0 ≤ 8) (h1 : 1 < takesOf k → 1 ≤ W1 ∧ W1 ≤ 8)
  (hA : A < 2 ^ W0) (hB : 1 < takesOf k → B < 2 ^ W1) (hC : 2 < takesOf k → C < 2 ^ W2) :
  q6 pg k W A B C N W0 W1 W2 gh = some (.ret, ⟨[(14, I (rawOf k W A B C N W0 W1))], [], gh⟩) := by
 rw [jpx _ _ _ _ _ _ _ hW.2]
 have hT := Two_eq (show W ≤ 61 by omega) gh
 have hz := ne_two W
 have hzd : decide (((2 ^ W : Nat) : Int) ≠ 0) = true := decide_eq_true hz
 have hp := pow_lt hW.2
 have hp0 := pow_lt h0.2
 have : k = 4 ∨ k = 5 ∨ k = 6 ∨ k = 7 ∨ k = 8 ∨ k = 9 ∨ k = 10 ∨ k = 11 ∨ k = 12 ∨ k = 13 ∨ k = 14 ∨ k = 15 ∨ k = 16 ∨ k = 17 ∨ k = 18 ∨ k = 19 ∨ k = 20 ∨ k = 21 ∨ k = 22 ∨ k = 23 := by omega
 rcases this with rfl | rfl | rfl | rfl | rfl | rfl | rfl | rfl | rfl | rfl | rfl | rfl | rfl | rfl | rfl | rfl | rfl | rfl | rfl | rfl
 all_goals cases hs
 all_goals simp [fitsOf] at hf
 ·rw [jwr, hT, jic, jib]
  obtain rfl : W0 = W := by omega
  rw [made4 hW hA]; rfl
 ·rw [jws, hT, jic, jib, hzd]
  obtain rfl : W0 = W := by omega
  rw [made5 hW hA]; rfl
 ·obtain ⟨-, e0, e1⟩ := hf
  obtain rfl : W0 = W := by omega
  obtain rfl : W1 = W0 := by omega
  have hB := hB (by decide)
  rw [jwt, hT, jic, jib, jmd 0 0 0 1 (by omega) (by omega) hW.2 (jvo A B), jic, jib]
  rw [show doOf 6 A B C N W1 W1 = iAnd .i64 A B from rfl, jvf (by omega) (by omega), Int.natCast_emod]
 ·obtain ⟨-, e0, e1⟩ := hf
  obtain rfl : W0 = W := by omega
  obtain rfl : W1 = W0 := by omega
  have hB := hB (by decide)
  rw [jwu, hT, jic, jib, jmd 0 1 1 1 (by omega) (by omega) hW.2 (tbl_or A B), jic, jib]
  rw [show doOf 7 A B C N W1 W1 = iOr .i64 A B from rfl, jp8 (by omega) (by omega), Int.natCast_emod]
 ·obtain ⟨-, e0, e1⟩ := hf
  obtain rfl : W0 = W := by omega
  obtain rfl : W1 = W0 := by omega
  have hB := hB (by decide)
  rw [jwv, hT, jic, jib, jmd 0 1 1 0 (by omega) (by omega) hW.2 (jvp A B), jic, jib]
  rw [show doOf 8 A B C N W1 W1 = iXor .i64 A B from rfl, jvg (by omega) (by omega), Int.natCast_emod]
 ·obtain ⟨-, e0, e1⟩ := hf
  obtain rfl : W0 = W := by omega
  obtain rfl : W1 = W0 := by omega
  rw [jww, hT, jic, jib, hzd, made9 hW hA (hB (by decide))]; rfl
 ·obtain ⟨-, e0, e1⟩ := hf
  obtain rfl : W0 = W := by omega
  obtain rfl : W1 = W0 := by omega
  rw [jwx, hT, jic, jib, hzd, made10 hW hA (hB (by decide))]; rfl
 ·obtain ⟨-, e0, e1⟩ := hf
  obtain rfl : W0 = W := by omega
  obtain rfl : W1 = W0 := by omega
  rw [jwy, hT, jic, jib, hzd, made11 hW hA (hB (by decide))]; rfl
 ·obtain ⟨-, e0, e1⟩ := hf
  obtain rfl : W0 = W := by omega
  obtain rfl : W1 = W0 := by omega
  rw [jwz, hT, jic, jib]
  by_cases hb : B = 0
  ·subst hb
   rw [jxb hW]; rfl
  ·rw [show doOf 12 A B C N W1 W1 = if (B : Int) = 0 then -1 else IntKind.i64.wrap (Int.tdiv A B) from rfl, if_neg (by omega), ← made12 hW hA]
   simp [hb]
 ·obtain ⟨-, e0, e1⟩ := hf
  obtain rfl : W0 = W := by omega
  obtain rfl : W1 = W0 := by omega
  rw [jx0, hT, jic, jib]
  by_cases hb : B = 0
  ·subst hb
   rw [show doOf 13 A ((0 : Nat) : Int) C N W1 W1 = A from rfl, jja (by omega) (by omega)]; rfl
  ·rw [show doOf 13 A B C N W1 W1 = if (B : Int) = 0 then (A : Int) else Int.tmod A B from rfl, if_neg (by omega), ← made13 hA]
   simp [hb]
 ·obtain ⟨-, e0, e1⟩ := hf
  obtain rfl : W0 = W := by omega
  obtain rfl : W1 = W0 := by omega
  rw [jx1, hT, jic, jib, show doOf 14 A B C N W1 W1 = iShl .i64 A B from rfl]
  by_cases hb : W1 ≤ B
  ·rw [decide_eq_true (by omega), jj9, jvl hW.2 hb]; rfl
  ·rw [decide_eq_false (by omega), jim, Two_eq (by omega), jic, jib, hzd, made14 hW hA (by omega)]; rfl
 ·obtain ⟨-, e0, e1⟩ := hf
  obtain rfl : W0 = W := by omega
  obtain rfl : W1 = W0 := by omega
  rw [jx2, hT, jic, jib, show doOf 15 A B C N W1 W1 = iShr .i64 A B from rfl]
  by_cases hb : W1 ≤ B
  ·rw [decide_eq_true (by omega), made15z hA hW.2 hb]; rfl
  ·rw [decide_eq_false (by omega), jim, Two_eq (by omega), jic, jib, decide_eq_true (ne_two B), made15 hW hA]; rfl
 ·obtain ⟨-, e0, e1⟩ := hf
  obtain rfl : W = 1 := by omega
  rw [jx3, hT, jic, jib, jmb, jic, jib, show doOf 16 A B C N W0 W1 = if (A : Int) = B then 1 else 0 from rfl]
  by_cases h : (A : Int) = B <;> simp [h]
 ·obtain ⟨-, e0, e1⟩ := hf
  obtain rfl : W = 1 := by omega
  rw [jx4, hT, jic, jib, jmb, jic, jib, show doOf 17 A B C N W0 W1 = if (A : Int) < B then 1 else 0 from rfl]
  by_cases h : (A : Int) < B
  ·rw [decide_eq_true h]; simp [h]
  ·rw [decide_eq_false h]; simp [h]
 ·obtain ⟨-, e0, e1⟩ := hf
  obtain rfl : W = 1 := by omega
  rw [jx5, hT, jic, jib, jmc h0 hA, jic, jib, jmc (h1 (by decide)) (hB (by decide)), jic, jib, jmb, jic, jib, show doOf 18 A B C N W0 W1 = if sgnOf A W0 < sgnOf B W1 then 1 else 0 from rfl]
  by_cases h : sgnOf A W0 < sgnOf B W1
  ·rw [decide_eq_true h]; simp [h]
  ·rw [decide_eq_false h]; simp [h]
 ·obtain ⟨-, e0, e1, e2⟩ := hf
  obtain rfl : W1 = W := by omega
  obtain rfl : W2 = W1 := by omega
  have hB := hB (by decide)
  have hC := hC (by decide)
  rw [jx6, hT, jic, jib, show doOf 19 A B C N W0 W2 = if (A : Int) = 1 then (B : Int) else C from rfl]
  by_cases h : (A : Int) = 1
  ·rw [if_pos h, jja (by omega) (by omega)]; simp [h]
  ·rw [if_neg h, jja (by omega) (by omega)]; simp [h]
 ·obtain ⟨-, e0⟩ := hf
  have g1 := h1 (by decide)
  rw [ji5 (by omega) (by omega)] at e0
  obtain rfl : W = W0 + W1 := by omega
  rw [jx7, hT, jic, jib, Two_eq (by omega), jic, jib, made20 hA (hB (by decide)) hW.2]; rfl
 ·rw [ji5 (by omega) (by omega)] at hf
  rw [jx8, hT, jic, jib, Two_eq (by omega), jic, jib, decide_eq_true (ne_two N), hzd, made21 hW (by omega)]; rfl
 ·obtain ⟨-, e0⟩ := hf
  have h2 : 2 ^ W0 ≤ 2 ^ W := Nat.pow_le_pow_right (by decide) (by omega)
  rw [jxa, hT, jic, jib, show doOf 22 A B C N W0 W1 = A from rfl, jja (by omega) (by omega)]
 ·obtain ⟨-, e0⟩ := hf
  rw [jx9, hT, jic, jib, jmc h0 hA, jic, jib, hzd, made23 hW (by omega) hA]; rfl
end Go.Lw
end

/-! Traces as texts: one line (the program's and the document's).. -/
section
namespace Go.Lw
open Go
section
variable {gh : List GObj}
abbrev I64s (l : List Int) : Prop := ∀ n ∈ l, -9223372036854775808 ≤ n ∧ n ≤ 9223372036854775807
end
end Go.Lw
end

/-! Traces as texts: Print, the program's and the document's. -/
section
namespace Go.Lw
open Go
abbrev LsI (ls : List (List Int)) : PV := .sl false 1 (ls.map fun l => LI l)
abbrev traceV (st : List Int) (ins : List (List Int)) : PV := .agg [LI st, LsI ins]
section
variable {gh : List GObj}
end
end Go.Lw
end

/-! traceBegun, reckoned. -/
section
namespace Go.Lw
open Go
set_option maxRecDepth 100000 in
theorem jy6 : callL pg 242 [] [] = some (.bool true, []) := jy5 (n := 2000) (by kernel_rfl)
end Go.Lw
end
