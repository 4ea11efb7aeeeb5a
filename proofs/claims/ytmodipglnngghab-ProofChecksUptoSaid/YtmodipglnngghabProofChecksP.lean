/-
  The texts that the proof stands on, part 16.
-/
import Derived.Test.YtmodipglnngghabProofChecksO
import Derived.Test.YtmodipglnngghabRows
set_option linter.unusedVariables false
set_option linter.unusedSimpArgs false
set_option linter.unnecessarySimpa false

/-! The second form's bound, told of what is opened. -/
section
namespace Go.Lw
open Go Go.Proofs.Ytmodipglnngghab

variable {H : Type}

mutual
theorem bulk_le : ∀ d : DataW H, bulk d ≤ Rows.uptoBulk d
  | .lit l => by cases l <;> simp [bulk, Rows.uptoBulk]
  | .nil => by simp [bulk, Rows.uptoBulk]
  | .ptr d => by simp [bulk, Rows.uptoBulk]
  | .slice elems spare => by
    have := bulkAll_le elems
    simp only [bulk, Rows.uptoBulk]; omega
  | .agg parts => by
    have := bulkAll_le parts
    simp only [bulk, Rows.uptoBulk]; omega
  | .iface t d => by simp [bulk, Rows.uptoBulk]
  | .map entries => by simp [bulk, Rows.uptoBulk]
  | .held h => by simp [bulk, Rows.uptoBulk]
theorem bulkAll_le : ∀ l : List (DataW H), bulkAll l ≤ Rows.uptoBulkAll l
  | [] => by simp [bulkAll, Rows.uptoBulkAll]
  | d :: r => by
    have := bulk_le d
    have := bulkAll_le r
    simp only [bulkAll, Rows.uptoBulkAll]; omega
end

theorem bulk_small {ds : List (DataW H)} (h : Rows.uptoSmall H (ds ++ []) = true) : bulkAll ds ≤ 1048576 := by
  rw [List.append_nil] at h
  have : Rows.uptoBulkAll ds ≤ 1048576 := by simpa [Rows.uptoSmall] using h
  exact Nat.le_trans (bulkAll_le ds) this

end Go.Lw
end

/-! The law GatesAnds, of the machine: it answers true. -/
section
namespace Go.Lw
open Go

section
variable {ins : Int} {ands : List (Int × Int)} {gh : List GObj}

end

theorem csOk_slice {g : Bool} {bytes : Nat} {l : List CS} {p : PV} (h : csOk (.slice g bytes l) p) : ∃ xs, p = .sl false l.length xs ∧ xs.length * bytes ≤ reachBytes ∧ ∀ e ∈ xs, (g = true ∧ ∃ ps, e = .agg ps ∧ csAll l ps) ∨ (g = false ∧ csAll l [e]) := by
  unfold csOk at h; exact h

end Go.Lw
end

/-! The law GatesEvals, of the machine: it answers true. -/
section
namespace Go.Lw
open Go

section
variable {ins : Int} {ands : List (Int × Int)} {gh : List GObj}

end

/-- All numbers of a list are Go's. -/
def RI (l : List Int) : Prop := ∀ x ∈ l, -9223372036854775808 ≤ x ∧ x ≤ 9223372036854775807

theorem int_list : ∀ {xs : List PV}, (∀ e ∈ xs, (false = true ∧ ∃ ps, e = .agg ps ∧ csAll [.int] ps) ∨ (false = false ∧ csAll [.int] [e])) → ∃ v : List Int, RI v ∧ xs = v.map I
  | [], _ => ⟨[], fun x h => (by cases h), rfl⟩
  | e :: xs, h => by
    obtain ⟨v, hr, rfl⟩ := int_list (xs := xs) fun e he => h e (List.mem_cons_of_mem _ he)
    rcases h e (by simp) with ⟨h, -⟩ | ⟨-, hp⟩
    · cases h
    · obtain ⟨_, _, e1, g0, hp⟩ := csAll_cons hp
      cases csAll_nil hp
      simp only [List.cons.injEq, and_true] at e1
      subst e1
      obtain ⟨b, rfl, hb⟩ := csOk_int g0
      refine ⟨b :: v, fun x hx => ?_, rfl⟩
      rcases List.mem_cons.1 hx with rfl | hx
      · exact hb
      · exact hr x hx

theorem argTy_one {c : CS} {p : PV} (h : argTy (false, [c]) p) : csOk c p := by
  obtain ⟨q, ps, e, h1, h2⟩ := csAll_cons h
  cases csAll_nil h2
  simp only [List.cons.injEq, and_true] at e
  subst e; exact h1

end Go.Lw
end

/-! ProofFollows: the law answers true. -/
section
namespace Go.Lw
open Go

def clausesC : List CS := [.int, .slice false 24 [.slice false 8 [.int]]]

theorem list_list {xs : List PV} (h : ∀ e ∈ xs, (false = true ∧ ∃ ps, e = .agg ps ∧ csAll [.slice false 8 [.int]] ps) ∨ (false = false ∧ csAll [.slice false 8 [.int]] [e])) : ∃ cls : List (List Int), xs = LLp cls ∧ SL cls := by
  induction xs with
  | nil => exact ⟨[], rfl, fun l h => by cases h⟩
  | cons x xs ih =>
    obtain ⟨cls, rfl, hs⟩ := ih fun e he => h e (List.mem_cons_of_mem _ he)
    rcases h x (List.mem_cons_self ..) with ⟨h1, _⟩ | ⟨_, h1⟩
    · cases h1
    · obtain ⟨_, _, e, g0, hp⟩ := csAll_cons h1
      injection e with e1 e2
      subst e1; subst e2
      obtain ⟨ys, rfl, hb, hy⟩ := csOk_slice g0
      obtain ⟨v, _, rfl⟩ := int_list hy
      refine ⟨v :: cls, rfl, fun l hl => ?_⟩
      rcases List.mem_cons.1 hl with rfl | hl
      · have : reachBytes = 140737488351232 := rfl
        simp only [List.length_map] at hb
        simp only [Sz]; omega
      · exact hs l hl

theorem clauses_ty {p : PV} (h : argTy (true, clausesC) p) : ∃ vars cls, p = clV vars cls ∧ SL cls := by
  obtain ⟨ps, rfl, hp⟩ := argTy_agg h
  obtain ⟨_, _, rfl, g0, hp⟩ := csAll_cons hp
  obtain ⟨_, _, rfl, g1, hp⟩ := csAll_cons hp
  obtain rfl := csAll_nil hp
  obtain ⟨vars, rfl, -⟩ := csOk_int g0
  obtain ⟨xs, rfl, hb, hx⟩ := csOk_slice g1
  obtain ⟨cls, rfl, hs⟩ := list_list hx
  exact ⟨vars, cls, rfl, hs⟩

theorem lists_ty {p : PV} (h : argTy (false, [.slice false 24 [.slice false 8 [.int]]]) p) : ∃ cls : List (List Int), p = .sl false 1 (LLp cls) ∧ SL cls := by
  obtain ⟨xs, rfl, hb, hx⟩ := csOk_slice (argTy_one h)
  obtain ⟨cls, rfl, hs⟩ := list_list hx
  exact ⟨cls, rfl, hs⟩

end Go.Lw
end

/-! ProofChecks: the law answers true. -/
section
namespace Go.Lw
open Go

theorem pc_k1 {b : Bool} {x : Int} : runL pg f_law_ProofChecks_k1 ⟨[(5, B b), (6, I x), (7, I x), (8, B b)], [], []⟩ = some (.ret, ⟨[(4, B true)], [], []⟩) :=
  D_law_ProofChecks_k1_ok (by simp [D_law_ProofChecks_k1, proofBegun_true])

theorem ProofChecks_eq {vars : Int} {cls p : List (List Int)} (hs : SL cls) (hp : SL p) (hz : (cls.length + p.length) * 24 ≤ maxBytes) : callL pg 148 [clV vars cls, .sl false 1 (LLp p)] [] = some (B true, []) := by
  have hC := PCheck_eq (vars := vars) hs hp hz
  have hK := CheckProof_eq (gh := []) (vars := vars) hz
  unfold pcE at hC
  by_cases hc : clsE vars cls = 0
  · rw [if_neg (fun h => h hc)] at hC
    rw [if_pos hc] at hK
    by_cases hc2 : clsE vars (cls ++ p) = 0
    · rw [if_neg (fun h => h hc2)] at hC
      rw [hc2] at hK
      have hP := ProofOf_eq (gh := []) (vars := vars) (cls_ok hc2)
      have k1 := pc_k1 (b := chkP cls p false) (x := 0)
      simp only at hC
      generalize chkP cls p false = r at *
      unfold clV at *
      simp only [LLp] at *
      generalize (p.map fun l => LI l) = P at *
      generalize (cls.map fun l => LI l) = Q at *
      refine callL_fn (fn := f_law_ProofChecks) (s := ⟨[(4, B true)], [], []⟩) rfl rfl (D_law_ProofChecks_0_ok ?h1) ?r1
      case h1 => simp [D_law_ProofChecks_0, hC, hK, hP, k1]
      case r1 => simp [finish, results, f_law_ProofChecks, resOfs, resOf, resOk, get]
    · rw [if_pos hc2] at hC
      have hc' : decide (clsE vars (cls ++ p) = 0) = false := decide_eq_false hc2
      have k1 := pc_k1 (b := false) (x := clsE vars (cls ++ p))
      simp only at hC
      generalize clsE vars (cls ++ p) = e at *
      unfold clV at *
      simp only [LLp] at *
      generalize (p.map fun l => LI l) = P at *
      generalize (cls.map fun l => LI l) = Q at *
      refine callL_fn (fn := f_law_ProofChecks) (s := ⟨[(4, B true)], [], []⟩) rfl rfl (D_law_ProofChecks_0_ok ?h2) ?r2
      case h2 => simp [D_law_ProofChecks_0, hC, hK, hc', k1]
      case r2 => simp [finish, results, f_law_ProofChecks, resOfs, resOf, resOk, get]
  · rw [if_pos hc] at hC
    rw [if_neg hc] at hK
    have hc' : decide (clsE vars cls = 0) = false := decide_eq_false hc
    have k1 := pc_k1 (b := false) (x := clsE vars cls)
    simp only at hC
    generalize clsE vars cls = e at *
    unfold clV at *
    simp only [LLp] at *
    generalize (p.map fun l => LI l) = P at *
    generalize (cls.map fun l => LI l) = Q at *
    refine callL_fn (fn := f_law_ProofChecks) (s := ⟨[(4, B true)], [], []⟩) rfl rfl (D_law_ProofChecks_0_ok ?h3) ?r3
    case h3 => simp [D_law_ProofChecks_0, hC, hK, hc', k1]
    case r3 => simp [finish, results, f_law_ProofChecks, resOfs, resOf, resOk, get]

abbrev insProofChecks : List (Bool × List CS) := [(true, clausesC), (false, [.slice false 24 [.slice false 8 [.int]]])]

theorem proofChecks_true (qs : List PV) (h : argsTy insProofChecks qs) (hn : bulkPs qs ≤ 1048576) : callL pg 148 qs [] = some (B true, []) := by
  obtain ⟨_, _, rfl, h0, h⟩ := argsTy_cons h
  obtain ⟨_, _, rfl, h1, h⟩ := argsTy_cons h
  obtain rfl := argsTy_nil h
  obtain ⟨vars, cls, rfl, hs⟩ := clauses_ty h0
  obtain ⟨p, rfl, hp⟩ := lists_ty h1
  refine ProofChecks_eq hs hp ?_
  have e1 := bulkPs_len (cls.map fun l => LI l)
  have e2 := bulkPs_len (p.map fun l => LI l)
  have hmx : maxBytes = 140737488355328 := rfl
  simp only [bulkPs, bulkP, List.length_map, clV, LLp] at hn e1 e2
  omega

end Go.Lw
end
