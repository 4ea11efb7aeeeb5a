/-
  The texts that the proof stands on, part 17.
-/
import Derived.Test.YtmodipglnngghacSearchIsP
import Derived.Test.YtmodipglnngghacRows
import Derived.KernelRfl
set_option linter.unusedVariables false
set_option linter.unusedSimpArgs false
set_option linter.unnecessarySimpa false

/-! The second form's bound, told of what is opened. -/
section
namespace Go.Lw
open Go Go.Proofs.Ytmodipglnngghac
variable {H : Type}
mutual
theorem bulk_le : ∀ d : DataW H, bulk d ≤ Rows.uptoBulk d
  | .lit l => by cases l <;> simp [bulk, Rows.uptoBulk]
  | .nil => by simp [bulk, Rows.uptoBulk]
  | .ptr d => by simp [bulk, Rows.uptoBulk]
  | .slice elems spare => by
    have := bulkAll_le elems
    simp only [bulk, Rows.uptoBulk]; omega
  | .agg parts => by
    have := bulkAll_le parts
    simp only [bulk, Rows.uptoBulk]; omega
  | .iface t d => by simp [bulk, Rows.uptoBulk]
  | .map entries => by simp [bulk, Rows.uptoBulk]
  | .held h => by simp [bulk, Rows.uptoBulk]
theorem bulkAll_le : ∀ l : List (DataW H), bulkAll l ≤ Rows.uptoBulkAll l
  | [] => by simp [bulkAll, Rows.uptoBulkAll]
  | d :: r => by
    have := bulk_le d
    have := bulkAll_le r
    simp only [bulkAll, Rows.uptoBulkAll]; omega
end
theorem bulk_small {ds : List (DataW H)} (h : Rows.uptoSmall H (ds ++ []) = true) : bulkAll ds ≤ 1048576 := by
  rw [List.append_nil] at h
  have : Rows.uptoBulkAll ds ≤ 1048576 := by simpa [Rows.uptoSmall] using h
  exact Nat.le_trans (bulkAll_le ds) this
end Go.Lw
end

/-! The law GatesAnds, of the machine: it answers true. -/
section
namespace Go.Lw
open Go
section
variable {ins : Int} {ands : List (Int × Int)} {gh : List GObj}
end
theorem csOk_slice {g : Bool} {bytes : Nat} {l : List CS} {p : PV} (h : csOk (.slice g bytes l) p) : ∃ xs, p = .sl false l.length xs ∧ xs.length * bytes ≤ reachBytes ∧ ∀ e ∈ xs, (g = true ∧ ∃ ps, e = .agg ps ∧ csAll l ps) ∨ (g = false ∧ csAll l [e]) := by
  unfold csOk at h; exact h
end Go.Lw
end

/-! The law GatesEvals, of the machine: it answers true. -/
section
namespace Go.Lw
open Go
section
variable {ins : Int} {ands : List (Int × Int)} {gh : List GObj}
end
theorem bool_list : ∀ {xs : List PV}, (∀ e ∈ xs, (false = true ∧ ∃ ps, e = .agg ps ∧ csAll [.bool] ps) ∨ (false = false ∧ csAll [.bool] [e])) → ∃ v : List Bool, xs = v.map B
  | [], _ => ⟨[], rfl⟩
  | e :: xs, h => by
    obtain ⟨v, rfl⟩ := bool_list (xs := xs) fun e he => h e (List.mem_cons_of_mem _ he)
    rcases h e (by simp) with ⟨h, -⟩ | ⟨-, hp⟩
    · cases h
    · obtain ⟨_, _, e1, g0, hp⟩ := csAll_cons hp
      cases csAll_nil hp
      simp only [List.cons.injEq, and_true] at e1
      subst e1
      unfold csOk at g0
      obtain ⟨b, rfl⟩ := g0
      exact ⟨b :: v, rfl⟩
def RI (l : List Int) : Prop := ∀ x ∈ l, -9223372036854775808 ≤ x ∧ x ≤ 9223372036854775807
theorem int_list : ∀ {xs : List PV}, (∀ e ∈ xs, (false = true ∧ ∃ ps, e = .agg ps ∧ csAll [.int] ps) ∨ (false = false ∧ csAll [.int] [e])) → ∃ v : List Int, RI v ∧ xs = v.map I
  | [], _ => ⟨[], fun x h => (by cases h), rfl⟩
  | e :: xs, h => by
    obtain ⟨v, hr, rfl⟩ := int_list (xs := xs) fun e he => h e (List.mem_cons_of_mem _ he)
    rcases h e (by simp) with ⟨h, -⟩ | ⟨-, hp⟩
    · cases h
    · obtain ⟨_, _, e1, g0, hp⟩ := csAll_cons hp
      cases csAll_nil hp
      simp only [List.cons.injEq, and_true] at e1
      subst e1
      obtain ⟨b, rfl, hb⟩ := csOk_int g0
      refine ⟨b :: v, fun x hx => ?_, rfl⟩
      rcases List.mem_cons.1 hx with rfl | hx
      · exact hb
      · exact hr x hx
theorem argTy_one {c : CS} {p : PV} (h : argTy (false, [c]) p) : csOk c p := by
  obtain ⟨q, ps, e, h1, h2⟩ := csAll_cons h
  cases csAll_nil h2
  simp only [List.cons.injEq, and_true] at e
  subst e; exact h1
theorem bools_ty {p : PV} (h : argTy (false, [.slice false 1 [.bool]]) p) : ∃ v : List Bool, p = LB v ∧ Sz v.length := by
  obtain ⟨xs, rfl, hb, hx⟩ := csOk_slice (argTy_one h)
  obtain ⟨v, rfl⟩ := bool_list hx
  refine ⟨v, rfl, ?_⟩
  have : reachBytes = 140737488351232 := rfl
  simp only [List.length_map] at hb
  simp only [Sz]; omega
end Go.Lw
end

/-! ProofFollows: the law answers true. -/
section
namespace Go.Lw
open Go
def clausesC : List CS := [.int, .slice false 24 [.slice false 8 [.int]]]
theorem list_list {xs : List PV} (h : ∀ e ∈ xs, (false = true ∧ ∃ ps, e = .agg ps ∧ csAll [.slice false 8 [.int]] ps) ∨ (false = false ∧ csAll [.slice false 8 [.int]] [e])) : ∃ cls : List (List Int), xs = LLp cls ∧ SL cls := by
  induction xs with
  | nil => exact ⟨[], rfl, fun l h => by cases h⟩
  | cons x xs ih =>
    obtain ⟨cls, rfl, hs⟩ := ih fun e he => h e (List.mem_cons_of_mem _ he)
    rcases h x (List.mem_cons_self ..) with ⟨h1, _⟩ | ⟨_, h1⟩
    · cases h1
    · obtain ⟨_, _, e, g0, hp⟩ := csAll_cons h1
      injection e with e1 e2
      subst e1; subst e2
      obtain ⟨ys, rfl, hb, hy⟩ := csOk_slice g0
      obtain ⟨v, _, rfl⟩ := int_list hy
      refine ⟨v :: cls, rfl, fun l hl => ?_⟩
      rcases List.mem_cons.1 hl with rfl | hl
      · have : reachBytes = 140737488351232 := rfl
        simp only [List.length_map] at hb
        simp only [Sz]; omega
      · exact hs l hl
theorem clauses_ty {p : PV} (h : argTy (true, clausesC) p) : ∃ vars cls, p = clV vars cls ∧ SL cls := by
  obtain ⟨ps, rfl, hp⟩ := argTy_agg h
  obtain ⟨_, _, rfl, g0, hp⟩ := csAll_cons hp
  obtain ⟨_, _, rfl, g1, hp⟩ := csAll_cons hp
  obtain rfl := csAll_nil hp
  obtain ⟨vars, rfl, -⟩ := csOk_int g0
  obtain ⟨xs, rfl, hb, hx⟩ := csOk_slice g1
  obtain ⟨cls, rfl, hs⟩ := list_list hx
  exact ⟨vars, cls, rfl, hs⟩
theorem lists_ty {p : PV} (h : argTy (false, [.slice false 24 [.slice false 8 [.int]]]) p) : ∃ cls : List (List Int), p = .sl false 1 (LLp cls) ∧ SL cls := by
  obtain ⟨xs, rfl, hb, hx⟩ := csOk_slice (argTy_one h)
  obtain ⟨cls, rfl, hs⟩ := list_list hx
  exact ⟨cls, rfl, hs⟩
end Go.Lw
end

/-! SearchIs: the law answers true. -/
section
namespace Go.Lw
open Go
set_option maxRecDepth 100000 in
theorem searchBegun_true : callL pg 165 [] [] = some (B true, []) := says_yes (n := 2000) (by kernel_rfl)
section
variable {gh : List GObj}
abbrev hoSt (vars : Int) (cls : List (List Int)) (v : List Bool) (i : Nat) (b : Bool) (k : Nat) (gh : List GObj) : St :=
  ⟨[(1, LB v), (2, .ptr false 0 0), (5, I i), (6, B b), (7, I k)], [[I vars, .sl false 1 (cls.map fun l => LI l)]], gh⟩
theorem ho_k1 {vars : Int} {cls : List (List Int)} {v : List Bool} {i : Nat} {b : Bool} {k : Nat} (hk : k ≤ 3000000) :
    runL pg f_ref_HoldsOf_k1 (hoSt vars cls v i b k gh) = some (.normal, hoSt vars cls v i b (k + 1) gh) := by
  have hw : IntKind.i64.wrap ((k : Int) + 1) = ((k + 1 : Nat) : Int) := wrap_nat (by simp only [Sz]; omega)
  generalize (v.map B) = V at *
  exact D_ref_HoldsOf_k1_ok (by simp [D_ref_HoldsOf_k1, hw])
theorem ho_l2 {vars : Int} {cls : List (List Int)} {v : List Bool} {i : Nat} {l : List Int} (hi : cls[i]? = some l) (hn : ∀ n ∈ l, numIn n v.length) (hv : v.length ≤ 3000000) (hl : l.length ≤ 3000000) : ∀ (d k : Nat) (b : Bool), k + d = l.length →
    runL pg f_ref_HoldsOf_l2 (hoSt vars cls v i b k gh) = some (.normal, ⟨[(1, LB v), (2, .ptr false 0 0), (5, I i), (6, B (b || (l.drop k).any (litN v)))], [[I vars, .sl false 1 (cls.map fun l => LI l)]], gh⟩) := by
  have hx : (cls.map fun l => LI l)[i]? = some (LI l) := by rw [List.getElem?_map, hi]; rfl
  intro d
  induction d with
  | zero =>
    intro k b hk
    rw [List.drop_eq_nil_of_le (by omega)]
    have hlt : ¬ k < l.length := by omega
    refine (lp_exit (s1 := ⟨[(1, LB v), (2, .ptr false 0 0), (5, I i), (6, B b), (7, I k), (23, B false)], [[I vars, .sl false 1 (cls.map fun l => LI l)]], gh⟩) (D_ref_HoldsOf_b2_ok ?h1)).trans ?r1
    case h1 =>
      generalize (cls.map fun l => LI l) = C at *
      generalize (v.map B) = V at *
      simp [D_ref_HoldsOf_b2, hx, hlt]
    case r1 => simp [keep, stays]
  | succ d ih =>
    intro k b hk
    have hlt : k < l.length := by omega
    have hltI : (k : Int) < (l.length : Int) := by omega
    have hltL : decide (k < (l.map I).length) = true := by rw [List.length_map]; exact decide_eq_true hlt
    obtain ⟨n, hne⟩ : ∃ n, l[k]? = some n := ⟨l[k], List.getElem?_eq_getElem hlt⟩
    have hd : l.drop k = n :: l.drop (k + 1) := by
      rw [List.drop_eq_getElem_cons hlt]
      rw [List.getElem?_eq_getElem hlt] at hne
      rw [Option.some.inj hne]
    have hnm : n ∈ l := List.mem_of_getElem? hne
    have hin := hn n hnm
    unfold numIn at hin
    have hy : (l.map I)[k]? = some (I n) := by rw [List.getElem?_map, hne]; rfl
    have k1 : ∀ b, runL pg f_ref_HoldsOf_k1 (hoSt vars cls v i b k gh) = some (.normal, hoSt vars cls v i b (k + 1) gh) := fun b => ho_k1 (by omega)
    rw [hd, List.any_cons, ← Bool.or_assoc]
    refine lp_next (s1 := hoSt vars cls v i (b || litN v n) (k + 1) gh) (D_ref_HoldsOf_b2_ok ?h2) (ih (k + 1) _ (by omega))
    case h2 =>
      have hb : n ≤ 3000000 ∧ -3000000 ≤ n := by omega
      by_cases hp : 0 < n
      · have e1 : IntKind.i64.wrap (n - 1) = n - 1 := wrap_id (by omega) (by omega)
        have hV : (v.map B)[(n - 1).toNat]? = some (B (litN v n)) := by
          have h1 : (n - 1).toNat < v.length := by omega
          have h2 : n.natAbs - 1 = (n - 1).toNat := by omega
          have h3 : v.getD (n.natAbs - 1) false = v[(n - 1).toNat] := by rw [h2, List.getD_eq_getElem?_getD, List.getElem?_eq_getElem h1]; rfl
          rw [List.getElem?_map, List.getElem?_eq_getElem h1]
          simp only [litN, h3, hp, decide_true, Option.map_some]
          simp
        have hV2 : (v.map B)[n.toNat - 1]? = some (B (litN v n)) := by rw [← hV]; congr 1; omega
        have h02 : 1 ≤ n := by omega
        have h0 : 0 ≤ n - 1 := by omega
        simp only [hoSt] at k1 ⊢
        generalize (cls.map fun l => LI l) = C at *
        simp only [LB, LI] at *
        generalize (v.map B) = V at *
        generalize (l.map I) = L at *
        generalize litN v n = q at *
        cases b <;> simp [D_ref_HoldsOf_b2, hx, hltL, hy, hp, e1, hV, hV2, h0, h02, k1] <;> rfl
      · have e1 : IntKind.i64.wrap (-n) = -n := wrap_id (by omega) (by omega)
        have e2 : IntKind.i64.wrap (-n - 1) = -n - 1 := wrap_id (by omega) (by omega)
        have hV : (v.map B)[(-n - 1).toNat]? = some (B (!litN v n)) := by
          have h1 : (-n - 1).toNat < v.length := by omega
          have h2 : n.natAbs - 1 = (-n - 1).toNat := by omega
          have h3 : v.getD (n.natAbs - 1) false = v[(-n - 1).toNat] := by rw [h2, List.getD_eq_getElem?_getD, List.getElem?_eq_getElem h1]; rfl
          rw [List.getElem?_map, List.getElem?_eq_getElem h1]
          simp only [litN, h3, hp, decide_false, Option.map_some]
          simp
        have hV2 : (v.map B)[(-n).toNat - 1]? = some (B (!litN v n)) := by rw [← hV]; congr 1; omega
        have h02 : 1 ≤ -n := by omega
        have h0 : 0 ≤ -n - 1 := by omega
        simp only [hoSt] at k1 ⊢
        generalize (cls.map fun l => LI l) = C at *
        simp only [LB, LI] at *
        generalize (v.map B) = V at *
        generalize (l.map I) = L at *
        generalize litN v n = q at *
        cases b <;> simp [D_ref_HoldsOf_b2, hx, hltL, hy, hp, e1, e2, hV, hV2, h0, h02, k1] <;> rfl
theorem ho_l1 {vars : Int} {cls : List (List Int)} {v : List Bool} (hn : ∀ l ∈ cls, ∀ n ∈ l, numIn n v.length) (hv : v.length ≤ 3000000) (hl : ∀ l ∈ cls, l.length ≤ 3000000) (hc : cls.length ≤ 3000000) : ∀ (d i : Nat), i + d = cls.length →
    runL pg f_ref_HoldsOf_l1 ⟨[(1, LB v), (2, .ptr false 0 0), (5, I i)], [[I vars, .sl false 1 (cls.map fun l => LI l)]], gh⟩ = (if holdB v (cls.drop i) then some (.normal, ⟨[], [], gh⟩) else some (.ret, ⟨[(4, B false)], [], gh⟩)) := by
  intro d
  induction d with
  | zero =>
    intro i hi
    rw [List.drop_eq_nil_of_le (by omega)]
    simp only [holdB, List.all_nil, if_true]
    have hlt : ¬ i < cls.length := by omega
    refine (lp_exit (s1 := ⟨[(1, LB v), (2, .ptr false 0 0), (5, I i), (13, B false)], [[I vars, .sl false 1 (cls.map fun l => LI l)]], gh⟩) (D_ref_HoldsOf_b1_ok ?h1)).trans ?r1
    case h1 =>
      have hCl : (cls.map fun l => LI l).length = cls.length := by simp
      generalize (cls.map fun l => LI l) = C at *
      generalize (v.map B) = V at *
      simp [D_ref_HoldsOf_b1, hCl, hlt]
    case r1 => simp [keep, stays]
  | succ d ih =>
    intro i hi
    have hlt : i < cls.length := by omega
    obtain ⟨l, hle⟩ : ∃ l, cls[i]? = some l := ⟨cls[i], List.getElem?_eq_getElem hlt⟩
    have hd : cls.drop i = l :: cls.drop (i + 1) := by
      rw [List.drop_eq_getElem_cons hlt]
      rw [List.getElem?_eq_getElem hlt] at hle
      rw [Option.some.inj hle]
    have hlm : l ∈ cls := List.mem_of_getElem? hle
    have h2 := ho_l2 (gh := gh) (vars := vars) hle (hn l hlm) hv (hl l hlm) l.length 0 false (by omega)
    rw [List.drop_zero, Bool.false_or] at h2
    have hw : IntKind.i64.wrap ((i : Int) + 1) = ((i + 1 : Nat) : Int) := wrap_nat (by simp only [Sz]; omega)
    have hCl : (cls.map fun l => LI l).length = cls.length := by simp
    have hlt2 : decide (i < (cls.map fun l => LI l).length) = true := by rw [hCl]; exact decide_eq_true hlt
    have hih := ih (i + 1) (by omega)
    rw [hd, holdB, List.all_cons]
    cases hq : l.any (litN v) with
    | false =>
      simp only [Bool.false_and, Bool.false_eq_true, if_false]
      rw [hq] at h2
      refine (lp_ret (D_ref_HoldsOf_b1_ok ?h2))
      case h2 =>
        have k2 : runL pg f_ref_HoldsOf_k2 ⟨[(1, LB v), (2, .ptr false 0 0), (5, I i), (6, B false)], [[I vars, .sl false 1 (cls.map fun l => LI l)]], gh⟩ = some (.ret, ⟨[(4, B false)], [], gh⟩) := by
          generalize (v.map B) = V at *
          exact D_ref_HoldsOf_k2_ok (by simp [D_ref_HoldsOf_k2])
        simp only [hoSt, Int.natCast_zero] at h2
        generalize (cls.map fun l => LI l) = C at *
        generalize (v.map B) = V at *
        simp [D_ref_HoldsOf_b1, hlt2, h2, k2]
    | true =>
      simp only [Bool.true_and]
      rw [hq] at h2
      refine lp_next (s1 := ⟨[(1, LB v), (2, .ptr false 0 0), (5, I ((i + 1 : Nat) : Int))], [[I vars, .sl false 1 (cls.map fun l => LI l)]], gh⟩) (D_ref_HoldsOf_b1_ok ?h3) hih
      case h3 =>
        have k2 : runL pg f_ref_HoldsOf_k2 ⟨[(1, LB v), (2, .ptr false 0 0), (5, I i), (6, B true)], [[I vars, .sl false 1 (cls.map fun l => LI l)]], gh⟩ = some (.normal, ⟨[(1, LB v), (2, .ptr false 0 0), (5, I i), (55, B false)], [[I vars, .sl false 1 (cls.map fun l => LI l)]], gh⟩) := by
          generalize (v.map B) = V at *
          exact D_ref_HoldsOf_k2_ok (by simp [D_ref_HoldsOf_k2])
        have k3 : runL pg f_ref_HoldsOf_k3 ⟨[(1, LB v), (2, .ptr false 0 0), (5, I i), (55, B false)], [[I vars, .sl false 1 (cls.map fun l => LI l)]], gh⟩ = some (.normal, ⟨[(1, LB v), (2, .ptr false 0 0), (5, I ((i + 1 : Nat) : Int))], [[I vars, .sl false 1 (cls.map fun l => LI l)]], gh⟩) := by
          generalize (v.map B) = V at *
          exact D_ref_HoldsOf_k3_ok (by simp [D_ref_HoldsOf_k3, hw])
        simp only [hoSt, Int.natCast_zero] at h2
        generalize (cls.map fun l => LI l) = C at *
        generalize (v.map B) = V at *
        simp [D_ref_HoldsOf_b1, hlt2, h2, k2, k3] <;> rfl
theorem HoldsOf_eq {vars : Int} {cls : List (List Int)} {v : List Bool} (hn : ∀ l ∈ cls, ∀ n ∈ l, numIn n v.length) (hv : v.length ≤ 3000000) (hl : ∀ l ∈ cls, l.length ≤ 3000000) (hc : cls.length ≤ 3000000) :
    callL pg 168 [clV vars cls, LB v] gh = some (B (holdB v cls), gh) := by
  have h1 := ho_l1 (gh := gh) (vars := vars) hn hv hl hc cls.length 0 (by omega)
  rw [List.drop_zero] at h1
  have k4 : runL pg f_ref_HoldsOf_k4 ⟨[], [], gh⟩ = some (.ret, ⟨[(4, B true)], [], gh⟩) := D_ref_HoldsOf_k4_ok rfl
  unfold clV
  refine callL_fn (fn := f_ref_HoldsOf) (s := ⟨[(4, B (holdB v cls))], [], gh⟩) rfl rfl (D_ref_HoldsOf_0_ok ?h1) ?r1
  case h1 =>
    generalize (cls.map fun l => LI l) = C at *
    generalize (v.map B) = V at *
    cases hq : holdB v cls <;> rw [hq] at h1 <;> simp at h1 <;> simp [D_ref_HoldsOf_0, h1, k4]
  case r1 => simp [finish, results, f_ref_HoldsOf, resOfs, resOf, resOk, get]
abbrev anV (k : Int) (v : List Bool) (p : List (List Int)) : PV := .agg [I k, LB v, .sl false 1 (LLp p)]
noncomputable def ansE (vars : Int) (cls : List (List Int)) (k : Int) (v : List Bool) (p : List (List Int)) : Bool × Int :=
  if k = 1 then (decide (p = []) && (decide ((v.length : Int) = vars) && holdB v cls), 0)
  else if k = 2 then (decide (v = []) && (decide (clsE vars (cls ++ p) = 0) && chkP cls p false), 0)
  else if k = 3 then (decide (v = []) && decide (p = []), 0)
  else (false, 7)
theorem nums_in {vars : Int} {cls : List (List Int)} {v : List Bool} (hok : clsE vars cls = 0) (hv : (v.length : Int) = vars) : (∀ l ∈ cls, ∀ n ∈ l, numIn n v.length) ∧ v.length ≤ 3000000 ∧ (∀ l ∈ cls, l.length ≤ 3000000) ∧ cls.length ≤ 3000000 := by
  obtain ⟨h1, h2, h3⟩ := clsE_zero hok
  refine ⟨fun l hl n hn => ?_, by omega, fun l hl => by have := (h3 l hl).1; omega, by omega⟩
  have := (h3 l hl).2 n hn
  unfold numIn
  omega
theorem AnswerIs_eq {vars : Int} {cls : List (List Int)} {k : Int} {v : List Bool} {p : List (List Int)} (hok : clsE vars cls = 0) (hz : (cls.length + p.length) * 24 ≤ maxBytes) :
    callL pg 167 [clV vars cls, anV k v p] gh = some (.tup [B (ansE vars cls k v p).1, I (ansE vars cls k v p).2], gh) := by
  have hCP := CheckProof_eq (gh := gh) (vars := vars) hz
  rw [if_pos hok] at hCP
  have hVn : decide (v.map B = []) = decide (v = []) := by cases v <;> simp
  have hPn : decide ((p.map fun l => LI l) = []) = decide (p = []) := by cases p <;> simp
  have hVl : ((v.map B).length : Int) = v.length := by simp
  have fin : ∀ (b : Bool) (e : Int), D_ref_AnswerIs_0 pg vars (.sl false 1 (cls.map fun l => LI l)) k (LB v) (.sl false 1 (LLp p)) gh = some (.ret, ⟨[(4, B b), (5, I e)], [], gh⟩) → callL pg 167 [clV vars cls, anV k v p] gh = some (.tup [B b, I e], gh) := by
    intro b e h
    refine callL_fn (fn := f_ref_AnswerIs) (s := ⟨[(4, B b), (5, I e)], [], gh⟩) rfl rfl (D_ref_AnswerIs_0_ok h) ?r
    case r => simp [finish, results, f_ref_AnswerIs, resOfs, resOf, resOk, get]
  refine fin _ _ ?_
  clear fin
  unfold ansE
  by_cases h1 : k = 1
  · have hd : decide (k = 1) = true := decide_eq_true h1
    rw [if_pos h1]
    by_cases hp : p = []
    · by_cases hv : (v.length : Int) = vars
      · obtain ⟨n1, n2, n3, n4⟩ := nums_in hok hv
        have hH := HoldsOf_eq (gh := gh) (vars := vars) n1 n2 n3 n4
        have hd2 : decide (((v.map B).length : Int) = vars) = true := by rw [hVl]; exact decide_eq_true hv
        have hd3 : decide ((v.length : Int) = vars) = true := decide_eq_true hv
        rw [decide_eq_true hp] at hPn ⊢
        rw [hd3]
        unfold clV at hH
        generalize holdB v cls = q at *
        simp only [LB, LLp] at *
        generalize (cls.map fun l => LI l) = C at *
        generalize (p.map fun l => LI l) = P at *
        generalize (v.map B) = V at *
        simp [D_ref_AnswerIs_0, hd, hPn, hd2, hH]
      · have hd2 : decide (((v.map B).length : Int) = vars) = false := by rw [hVl]; exact decide_eq_false hv
        have hd3 : decide ((v.length : Int) = vars) = false := decide_eq_false hv
        rw [decide_eq_true hp] at hPn ⊢
        rw [hd3]
        simp only [LB, LLp] at *
        generalize (cls.map fun l => LI l) = C at *
        generalize (p.map fun l => LI l) = P at *
        generalize (v.map B) = V at *
        simp [D_ref_AnswerIs_0, hd, hPn, hd2]
    · rw [decide_eq_false hp] at hPn ⊢
      simp only [LB, LLp] at *
      generalize (cls.map fun l => LI l) = C at *
      generalize (p.map fun l => LI l) = P at *
      generalize (v.map B) = V at *
      simp [D_ref_AnswerIs_0, hd, hPn]
  · have hd : decide (k = 1) = false := decide_eq_false h1
    rw [if_neg h1]
    by_cases h2 : k = 2
    · have he : decide (k = 2) = true := decide_eq_true h2
      rw [if_pos h2]
      by_cases hv : v = []
      · rw [decide_eq_true hv] at hVn ⊢
        by_cases hc2 : clsE vars (cls ++ p) = 0
        · have hP := ProofOf_eq (gh := gh) (vars := vars) (cls_ok hc2)
          rw [decide_eq_true hc2]
          rw [hc2] at hCP
          unfold clV at *
          generalize chkP cls p false = r at *
          simp only [LB, LLp] at *
          generalize (cls.map fun l => LI l) = C at *
          generalize (p.map fun l => LI l) = P at *
          generalize (v.map B) = V at *
          simp [D_ref_AnswerIs_0, hd, he, hVn, hCP, hP]
        · have hcd : decide (clsE vars (cls ++ p) = 0) = false := decide_eq_false hc2
          rw [hcd]
          generalize clsE vars (cls ++ p) = e at *
          unfold clV at *
          simp only [LB, LLp] at *
          generalize (cls.map fun l => LI l) = C at *
          generalize (p.map fun l => LI l) = P at *
          generalize (v.map B) = V at *
          simp [D_ref_AnswerIs_0, hd, he, hVn, hCP, hcd]
      · rw [decide_eq_false hv] at hVn ⊢
        simp only [LB, LLp] at *
        generalize (cls.map fun l => LI l) = C at *
        generalize (p.map fun l => LI l) = P at *
        generalize (v.map B) = V at *
        simp [D_ref_AnswerIs_0, hd, he, hVn]
    · have he : decide (k = 2) = false := decide_eq_false h2
      rw [if_neg h2]
      by_cases h3 : k = 3
      · have hf : decide (k = 3) = true := decide_eq_true h3
        rw [if_pos h3, ← hVn, ← hPn]
        simp only [LB, LLp] at *
        generalize (cls.map fun l => LI l) = C at *
        generalize (p.map fun l => LI l) = P at *
        generalize (v.map B) = V at *
        cases hq : decide (V = []) <;> simp [D_ref_AnswerIs_0, hd, he, hf, hq]
      · have hf : decide (k = 3) = false := decide_eq_false h3
        rw [if_neg h3]
        simp only [LB, LLp] at *
        generalize (cls.map fun l => LI l) = C at *
        generalize (p.map fun l => LI l) = P at *
        generalize (v.map B) = V at *
        simp [D_ref_AnswerIs_0, hd, he, hf]
theorem sis_three {vars k n : Int} {C V P : List PV} (hd : decide (k = 1) = false) (he : decide (k = 2) = false) (hf : decide (k = 3) = true) (hC : callL pg 59 [.agg [I vars, .sl false 1 C]] gh = some (I 0, gh)) (hw : IntKind.i64.wrap ((V.length : Int) + (P.length : Int)) = n) :
    D_search_Is_0 pg vars (.sl false 1 C) k (.sl false 1 V) (.sl false 1 P) gh = some (.ret, ⟨[(4, B (decide (n = 0))), (5, I 0)], [], gh⟩) := by
  have e1 : (k == 1) = false := by rw [beqI]; exact hd
  have e2 : (k == 2) = false := by rw [beqI]; exact he
  have e3 : (k == 3) = true := by rw [beqI]; exact hf
  unfold D_search_Is_0
  simp only [degr1_sl, hC, bneI, e1, br_false, e2, e3, br_true, degr_sl, lenS_sl, isC_sl, callR_t, unI_int, decide_true, Bool.not_true, onK_sl]
  subst hw
  rw [beqI]
set_option maxRecDepth 100000 in
theorem SIs_eq {vars : Int} {cls : List (List Int)} {k : Int} {v : List Bool} {p : List (List Int)} (hs : SL cls) (hp : SL p) (hz : (cls.length + p.length) * 24 ≤ maxBytes) (hsv : Sz v.length) (hsp : Sz p.length) :
    callL pg 166 [clV vars cls, anV k v p] [] = some (.tup [B (if clsE vars cls = 0 then (ansE vars cls k v p).1 else false), I (if clsE vars cls = 0 then (ansE vars cls k v p).2 else clsE vars cls)], []) := by
  have hC := CheckC_eq (gh := []) (vars := vars) hs
  have hPC := PCheck_eq (vars := vars) hs hp hz
  have hVn : decide (v.map B = []) = decide (v = []) := by cases v <;> simp
  have hPn : decide ((p.map fun l => LI l) = []) = decide (p = []) := by cases p <;> simp
  have hVl : ((v.map B).length : Int) = v.length := by simp
  have fin : ∀ (b : Bool) (e : Int), D_search_Is_0 pg vars (.sl false 1 (cls.map fun l => LI l)) k (LB v) (.sl false 1 (LLp p)) [] = some (.ret, ⟨[(4, B b), (5, I e)], [], []⟩) → callL pg 166 [clV vars cls, anV k v p] [] = some (.tup [B b, I e], []) := by
    intro b e h
    refine callL_fn (fn := f_search_Is) (s := ⟨[(4, B b), (5, I e)], [], []⟩) rfl rfl (D_search_Is_0_ok h) ?r
    case r => simp [finish, results, f_search_Is, resOfs, resOf, resOk, get]
  refine fin _ _ ?_
  clear fin
  by_cases hok : clsE vars cls = 0
  · rw [if_pos hok, if_pos hok]
    rw [hok] at hC
    unfold ansE
    by_cases h1 : k = 1
    · have hd : decide (k = 1) = true := decide_eq_true h1
      rw [if_pos h1]
      by_cases hp : p = []
      · by_cases hv : (v.length : Int) = vars
        · obtain ⟨n1, n2, n3, n4⟩ := nums_in hok hv
          have hH := Hold_eq (gh := []) (vars := vars) n1 n2 hs (by simp only [Sz]; omega)
          have hd2 : decide (((v.map B).length : Int) = vars) = true := by rw [hVl]; exact decide_eq_true hv
          have hd3 : decide ((v.length : Int) = vars) = true := decide_eq_true hv
          rw [decide_eq_true hp] at hPn ⊢
          rw [hd3]
          unfold clV at hH hC
          generalize holdB v cls = q at *
          simp only [LB, LLp] at *
          generalize (cls.map fun l => LI l) = C at *
          generalize (p.map fun l => LI l) = P at *
          generalize (v.map B) = V at *
          simp [D_search_Is_0, hd, hPn, hd2, hH, hC]
        · have hd2 : decide (((v.map B).length : Int) = vars) = false := by rw [hVl]; exact decide_eq_false hv
          have hd3 : decide ((v.length : Int) = vars) = false := decide_eq_false hv
          rw [decide_eq_true hp] at hPn ⊢
          rw [hd3]
          unfold clV at hC
          simp only [LB, LLp] at *
          generalize (cls.map fun l => LI l) = C at *
          generalize (p.map fun l => LI l) = P at *
          generalize (v.map B) = V at *
          simp [D_search_Is_0, hd, hPn, hd2, hC]
      · rw [decide_eq_false hp] at hPn ⊢
        unfold clV at hC
        simp only [LB, LLp] at *
        generalize (cls.map fun l => LI l) = C at *
        generalize (p.map fun l => LI l) = P at *
        generalize (v.map B) = V at *
        simp [D_search_Is_0, hd, hPn, hC]
    · have hd : decide (k = 1) = false := decide_eq_false h1
      rw [if_neg h1]
      by_cases h2 : k = 2
      · have he : decide (k = 2) = true := decide_eq_true h2
        rw [if_pos h2]
        have hpc : (decide (clsE vars (cls ++ p) = 0) && chkP cls p false) = ((pcE vars cls p).1 && decide ((pcE vars cls p).2 = 0)) := by
          unfold pcE
          rw [if_neg (fun h => h hok)]
          by_cases hc2 : clsE vars (cls ++ p) = 0
          · simp [hc2]
          · simp [hc2]
        rw [hpc, ← hVn]
        unfold clV at *
        generalize (pcE vars cls p).1 = q1 at *
        generalize (pcE vars cls p).2 = q2 at *
        simp only [LB, LLp] at *
        generalize (cls.map fun l => LI l) = C at *
        generalize (p.map fun l => LI l) = P at *
        generalize (v.map B) = V at *
        cases hq : decide (V = []) <;> cases q1 <;> simp [D_search_Is_0, hd, he, hPC, hC, hq]
      · have he : decide (k = 2) = false := decide_eq_false h2
        rw [if_neg h2]
        by_cases h3 : k = 3
        · have hf : decide (k = 3) = true := decide_eq_true h3
          have hw : IntKind.i64.wrap (((v.map B).length : Int) + ((LLp p).length : Int)) = ((v.length + p.length : Nat) : Int) := by
            rw [wrap_id (by omega) (by simp only [Sz, List.length_map, LLp] at *; omega)]
            simp [LLp]
          have hs3 : decide (((v.length + p.length : Nat) : Int) = 0) = (decide (v = []) && decide (p = [])) := by
            cases v <;> cases p <;> simp <;> omega
          rw [if_pos h3, ← hs3]
          generalize v.length + p.length = n at *
          unfold clV at hC
          simp only [LB, LLp] at *
          generalize (cls.map fun l => LI l) = C at *
          generalize (p.map fun l => LI l) = P at *
          generalize (v.map B) = V at *
          exact sis_three hd he hf hC hw
        · have hf : decide (k = 3) = false := decide_eq_false h3
          rw [if_neg h3]
          unfold clV at hC
          simp only [LB, LLp] at *
          generalize (cls.map fun l => LI l) = C at *
          generalize (p.map fun l => LI l) = P at *
          generalize (v.map B) = V at *
          simp [D_search_Is_0, hd, he, hf, hC]
  · rw [if_neg hok, if_neg hok]
    have hok' : decide (clsE vars cls = 0) = false := decide_eq_false hok
    generalize clsE vars cls = e at *
    unfold clV at hC
    simp only [LB, LLp] at *
    generalize (cls.map fun l => LI l) = C at *
    generalize (p.map fun l => LI l) = P at *
    generalize (v.map B) = V at *
    simp [D_search_Is_0, hC, hok']
end
theorem si_k1 {b : Bool} {x : Int} : runL pg f_law_SearchIs_k1 ⟨[(5, B b), (6, I x), (7, I x), (8, B b)], [], []⟩ = some (.ret, ⟨[(4, B true)], [], []⟩) :=
  D_law_SearchIs_k1_ok (by simp [D_law_SearchIs_k1, searchBegun_true])
theorem SearchIs_eq {vars : Int} {cls : List (List Int)} {k : Int} {v : List Bool} {p : List (List Int)} (hs : SL cls) (hp : SL p) (hz : (cls.length + p.length) * 24 ≤ maxBytes) (hsv : Sz v.length) (hsp : Sz p.length) :
    callL pg 207 [clV vars cls, anV k v p] [] = some (B true, []) := by
  have hI := SIs_eq (vars := vars) (k := k) hs hp hz hsv hsp
  have hC := CheckCls_eq (gh := []) (vars := vars) (cls := cls)
  by_cases hok : clsE vars cls = 0
  · have hA := AnswerIs_eq (gh := []) (k := k) (v := v) hok hz
    rw [if_pos hok, if_pos hok] at hI
    rw [hok] at hC
    generalize (ansE vars cls k v p).1 = q1 at *
    generalize (ansE vars cls k v p).2 = q2 at *
    have k1 := si_k1 (b := q1) (x := q2)
    unfold clV at *
    simp only [anV] at *
    generalize (cls.map fun l => LI l) = C at *
    generalize (p.map fun l => LI l) = P at *
    generalize (v.map B) = V at *
    refine callL_fn (fn := f_law_SearchIs) (s := ⟨[(4, B true)], [], []⟩) rfl rfl (D_law_SearchIs_0_ok ?h1) ?r1
    case h1 => simp [D_law_SearchIs_0, hI, hC, hA, k1]
    case r1 => simp [finish, results, f_law_SearchIs, resOfs, resOf, resOk, get]
  · rw [if_neg hok, if_neg hok] at hI
    have hok' : decide (clsE vars cls = 0) = false := decide_eq_false hok
    have k1 := si_k1 (b := false) (x := clsE vars cls)
    generalize clsE vars cls = e at *
    unfold clV at *
    simp only [anV] at *
    generalize (cls.map fun l => LI l) = C at *
    generalize (p.map fun l => LI l) = P at *
    generalize (v.map B) = V at *
    refine callL_fn (fn := f_law_SearchIs) (s := ⟨[(4, B true)], [], []⟩) rfl rfl (D_law_SearchIs_0_ok ?h2) ?r2
    case h2 => simp [D_law_SearchIs_0, hI, hC, hok', k1]
    case r2 => simp [finish, results, f_law_SearchIs, resOfs, resOf, resOk, get]
def answerC : List CS := [.int, .slice false 1 [.bool], .slice false 24 [.slice false 8 [.int]]]
theorem answer_ty {p : PV} (h : argTy (true, answerC) p) : ∃ k v q, p = anV k v q ∧ SL q ∧ Sz v.length := by
  obtain ⟨ps, rfl, hp⟩ := argTy_agg h
  obtain ⟨_, _, rfl, g0, hp⟩ := csAll_cons hp
  obtain ⟨_, _, rfl, g1, hp⟩ := csAll_cons hp
  obtain ⟨_, _, rfl, g2, hp⟩ := csAll_cons hp
  obtain rfl := csAll_nil hp
  obtain ⟨k, rfl, -⟩ := csOk_int g0
  obtain ⟨v, rfl, hv⟩ := bools_ty (p := _) (show argTy (false, [.slice false 1 [.bool]]) _ from ⟨g1, trivial⟩)
  obtain ⟨q, rfl, hq⟩ := lists_ty (p := _) (show argTy (false, [.slice false 24 [.slice false 8 [.int]]]) _ from ⟨g2, trivial⟩)
  exact ⟨k, v, q, rfl, hq, hv⟩
abbrev insSearchIs : List (Bool × List CS) := [(true, clausesC), (true, answerC)]
theorem searchIs_true (qs : List PV) (h : argsTy insSearchIs qs) (hn : bulkPs qs ≤ 1048576) : callL pg 207 qs [] = some (B true, []) := by
  obtain ⟨_, _, rfl, h0, h⟩ := argsTy_cons h
  obtain ⟨_, _, rfl, h1, h⟩ := argsTy_cons h
  obtain rfl := argsTy_nil h
  obtain ⟨vars, cls, rfl, hs⟩ := clauses_ty h0
  obtain ⟨k, v, p, rfl, hp, hv⟩ := answer_ty h1
  have e1 := bulkPs_len (cls.map fun l => LI l)
  have e2 := bulkPs_len (p.map fun l => LI l)
  have hmx : maxBytes = 140737488355328 := rfl
  simp only [bulkPs, bulkP, List.length_map, clV, LLp, anV] at hn e1 e2
  refine SearchIs_eq hs hp (by omega) hv (by simp only [Sz]; omega)
end Go.Lw
end
