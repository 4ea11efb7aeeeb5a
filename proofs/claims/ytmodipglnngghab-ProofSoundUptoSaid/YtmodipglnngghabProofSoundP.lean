/-
  The texts that the proof stands on, part 16.
-/
import Derived.Test.YtmodipglnngghabProofSoundO
import Derived.Test.YtmodipglnngghabRows
set_option linter.unusedVariables false
set_option linter.unusedSimpArgs false
set_option linter.unnecessarySimpa false

/-! The second form's bound, told of what is opened. -/
section
namespace Go.Lw
open Go Go.Proofs.Ytmodipglnngghab

variable {H : Type}

mutual
theorem bulk_le : ∀ d : DataW H, bulk d ≤ Rows.uptoBulk d
  | .lit l => by cases l <;> simp [bulk, Rows.uptoBulk]
  | .nil => by simp [bulk, Rows.uptoBulk]
  | .ptr d => by simp [bulk, Rows.uptoBulk]
  | .slice elems spare => by
    have := bulkAll_le elems
    simp only [bulk, Rows.uptoBulk]; omega
  | .agg parts => by
    have := bulkAll_le parts
    simp only [bulk, Rows.uptoBulk]; omega
  | .iface t d => by simp [bulk, Rows.uptoBulk]
  | .map entries => by simp [bulk, Rows.uptoBulk]
  | .held h => by simp [bulk, Rows.uptoBulk]
theorem bulkAll_le : ∀ l : List (DataW H), bulkAll l ≤ Rows.uptoBulkAll l
  | [] => by simp [bulkAll, Rows.uptoBulkAll]
  | d :: r => by
    have := bulk_le d
    have := bulkAll_le r
    simp only [bulkAll, Rows.uptoBulkAll]; omega
end

theorem bulk_small {ds : List (DataW H)} (h : Rows.uptoSmall H (ds ++ []) = true) : bulkAll ds ≤ 1048576 := by
  rw [List.append_nil] at h
  have : Rows.uptoBulkAll ds ≤ 1048576 := by simpa [Rows.uptoSmall] using h
  exact Nat.le_trans (bulkAll_le ds) this

end Go.Lw
end

/-! The law GatesAnds, of the machine: it answers true. -/
section
namespace Go.Lw
open Go

section
variable {ins : Int} {ands : List (Int × Int)} {gh : List GObj}

end

theorem csOk_slice {g : Bool} {bytes : Nat} {l : List CS} {p : PV} (h : csOk (.slice g bytes l) p) : ∃ xs, p = .sl false l.length xs ∧ xs.length * bytes ≤ reachBytes ∧ ∀ e ∈ xs, (g = true ∧ ∃ ps, e = .agg ps ∧ csAll l ps) ∨ (g = false ∧ csAll l [e]) := by
  unfold csOk at h; exact h

end Go.Lw
end

/-! The law GatesEvals, of the machine: it answers true. -/
section
namespace Go.Lw
open Go

section
variable {ins : Int} {ands : List (Int × Int)} {gh : List GObj}

end

theorem bool_list : ∀ {xs : List PV}, (∀ e ∈ xs, (false = true ∧ ∃ ps, e = .agg ps ∧ csAll [.bool] ps) ∨ (false = false ∧ csAll [.bool] [e])) → ∃ v : List Bool, xs = v.map B
  | [], _ => ⟨[], rfl⟩
  | e :: xs, h => by
    obtain ⟨v, rfl⟩ := bool_list (xs := xs) fun e he => h e (List.mem_cons_of_mem _ he)
    rcases h e (by simp) with ⟨h, -⟩ | ⟨-, hp⟩
    · cases h
    · obtain ⟨_, _, e1, g0, hp⟩ := csAll_cons hp
      cases csAll_nil hp
      simp only [List.cons.injEq, and_true] at e1
      subst e1
      unfold csOk at g0
      obtain ⟨b, rfl⟩ := g0
      exact ⟨b :: v, rfl⟩

/-- All numbers of a list are Go's. -/
def RI (l : List Int) : Prop := ∀ x ∈ l, -9223372036854775808 ≤ x ∧ x ≤ 9223372036854775807

theorem int_list : ∀ {xs : List PV}, (∀ e ∈ xs, (false = true ∧ ∃ ps, e = .agg ps ∧ csAll [.int] ps) ∨ (false = false ∧ csAll [.int] [e])) → ∃ v : List Int, RI v ∧ xs = v.map I
  | [], _ => ⟨[], fun x h => (by cases h), rfl⟩
  | e :: xs, h => by
    obtain ⟨v, hr, rfl⟩ := int_list (xs := xs) fun e he => h e (List.mem_cons_of_mem _ he)
    rcases h e (by simp) with ⟨h, -⟩ | ⟨-, hp⟩
    · cases h
    · obtain ⟨_, _, e1, g0, hp⟩ := csAll_cons hp
      cases csAll_nil hp
      simp only [List.cons.injEq, and_true] at e1
      subst e1
      obtain ⟨b, rfl, hb⟩ := csOk_int g0
      refine ⟨b :: v, fun x hx => ?_, rfl⟩
      rcases List.mem_cons.1 hx with rfl | hx
      · exact hb
      · exact hr x hx

theorem argTy_one {c : CS} {p : PV} (h : argTy (false, [c]) p) : csOk c p := by
  obtain ⟨q, ps, e, h1, h2⟩ := csAll_cons h
  cases csAll_nil h2
  simp only [List.cons.injEq, and_true] at e
  subst e; exact h1

theorem bools_ty {p : PV} (h : argTy (false, [.slice false 1 [.bool]]) p) : ∃ v : List Bool, p = LB v ∧ Sz v.length := by
  obtain ⟨xs, rfl, hb, hx⟩ := csOk_slice (argTy_one h)
  obtain ⟨v, rfl⟩ := bool_list hx
  refine ⟨v, rfl, ?_⟩
  have : reachBytes = 140737488351232 := rfl
  simp only [List.length_map] at hb
  simp only [Sz]; omega

end Go.Lw
end

/-! ProofFollows: the law answers true. -/
section
namespace Go.Lw
open Go

def clausesC : List CS := [.int, .slice false 24 [.slice false 8 [.int]]]

theorem list_list {xs : List PV} (h : ∀ e ∈ xs, (false = true ∧ ∃ ps, e = .agg ps ∧ csAll [.slice false 8 [.int]] ps) ∨ (false = false ∧ csAll [.slice false 8 [.int]] [e])) : ∃ cls : List (List Int), xs = LLp cls ∧ SL cls := by
  induction xs with
  | nil => exact ⟨[], rfl, fun l h => by cases h⟩
  | cons x xs ih =>
    obtain ⟨cls, rfl, hs⟩ := ih fun e he => h e (List.mem_cons_of_mem _ he)
    rcases h x (List.mem_cons_self ..) with ⟨h1, _⟩ | ⟨_, h1⟩
    · cases h1
    · obtain ⟨_, _, e, g0, hp⟩ := csAll_cons h1
      injection e with e1 e2
      subst e1; subst e2
      obtain ⟨ys, rfl, hb, hy⟩ := csOk_slice g0
      obtain ⟨v, _, rfl⟩ := int_list hy
      refine ⟨v :: cls, rfl, fun l hl => ?_⟩
      rcases List.mem_cons.1 hl with rfl | hl
      · have : reachBytes = 140737488351232 := rfl
        simp only [List.length_map] at hb
        simp only [Sz]; omega
      · exact hs l hl

theorem clauses_ty {p : PV} (h : argTy (true, clausesC) p) : ∃ vars cls, p = clV vars cls ∧ SL cls := by
  obtain ⟨ps, rfl, hp⟩ := argTy_agg h
  obtain ⟨_, _, rfl, g0, hp⟩ := csAll_cons hp
  obtain ⟨_, _, rfl, g1, hp⟩ := csAll_cons hp
  obtain rfl := csAll_nil hp
  obtain ⟨vars, rfl, -⟩ := csOk_int g0
  obtain ⟨xs, rfl, hb, hx⟩ := csOk_slice g1
  obtain ⟨cls, rfl, hs⟩ := list_list hx
  exact ⟨vars, cls, rfl, hs⟩

theorem lists_ty {p : PV} (h : argTy (false, [.slice false 24 [.slice false 8 [.int]]]) p) : ∃ cls : List (List Int), p = .sl false 1 (LLp cls) ∧ SL cls := by
  obtain ⟨xs, rfl, hb, hx⟩ := csOk_slice (argTy_one h)
  obtain ⟨cls, rfl, hs⟩ := list_list hx
  exact ⟨cls, rfl, hs⟩

end Go.Lw
end

/-! ProofSound: the law answers true. -/
section
namespace Go.Lw
open Go

/-- What follows holds where the clauses hold. -/
theorem der_holds {A : Int → Bool} (hA : ∀ n, n ≠ 0 → A (-n) = !A n) {L : List (List Int)} {S : List Int} (hL : ∀ c ∈ L, ∃ n ∈ c, A n = true) (h0 : ∀ c ∈ L, ∀ n ∈ c, n ≠ 0) (hS : ∀ x ∈ S, A x = true) : ∀ x, Der L S x → A x = true := by
  intro x h
  induction h with
  | base h => exact hS _ h
  | @unit c x hc hx _ ih =>
    obtain ⟨n, hn, ht⟩ := hL c hc
    by_cases he : n = x
    · rw [← he]; exact ht
    · have := ih n hn he
      rw [hA n (h0 c hc n hn), ht] at this
      cases this

theorem conf_holds {A : Int → Bool} (hA : ∀ n, n ≠ 0 → A (-n) = !A n) {L : List (List Int)} {S : List Int} (hL : ∀ c ∈ L, ∃ n ∈ c, A n = true) (h0 : ∀ c ∈ L, ∀ n ∈ c, n ≠ 0) (hS : ∀ x ∈ S, A x = true) (hS0 : ∀ x ∈ S, x ≠ 0) : ¬ Conf L S := by
  have hd := der_holds hA hL h0 hS
  rintro (⟨x, h1, h2⟩ | ⟨c, hc, h⟩)
  · have hx0 : x ≠ 0 := by
      cases h1 with
      | base h => exact hS0 _ h
      | unit h1 h2 _ => exact h0 _ h1 _ h2
    have e1 := hd x h1
    have e2 := hd (-x) h2
    rw [hA x hx0, e1] at e2
    cases e2
  · obtain ⟨n, hn, ht⟩ := hL c hc
    have := hd _ (h n hn)
    rw [hA n (h0 c hc n hn), ht] at this
    cases this

theorem chkP_holds {A : Int → Bool} (hA : ∀ n, n ≠ 0 → A (-n) = !A n) : ∀ (p L : List (List Int)) (e : Bool), (∀ c ∈ L, ∃ n ∈ c, A n = true) → (∀ c ∈ L, ∀ n ∈ c, n ≠ 0) → (∀ c ∈ p, ∀ n ∈ c, n ≠ 0) → chkP L p e = true → e = true
  | [], L, e, _, _, _, h => by rw [chkP] at h; exact h
  | l :: r, L, e, hL, h0, hp, h => by
    rw [chkP] at h
    split at h
    · rename_i hc
      have hl : ∃ n ∈ l, A n = true := by
        refine Classical.byContradiction fun hn => conf_holds hA hL h0 (S := negs l) (fun x hx => ?_) (fun x hx => ?_) hc
        · obtain ⟨n, hm, rfl⟩ := List.mem_map.1 hx
          rw [hA n (hp l (by simp) n hm)]
          cases ha : A n with
          | true => exact absurd ⟨n, hm, ha⟩ hn
          | false => rfl
        · obtain ⟨n, hm, rfl⟩ := List.mem_map.1 hx
          have := hp l (by simp) n hm
          omega
      have hr := chkP_holds hA r (L ++ [l]) _ (fun c hc => by
        rcases List.mem_append.1 hc with hc | hc
        · exact hL c hc
        · rw [List.mem_singleton.1 hc]; exact hl) (fun c hc => by
        rcases List.mem_append.1 hc with hc | hc
        · exact h0 c hc
        · rw [List.mem_singleton.1 hc]; exact hp l (by simp)) (fun c hc => hp c (by simp [hc])) h
      obtain ⟨n, hn, _⟩ := hl
      have hne : decide (l.length = 0) = false := by
        cases l with
        | nil => cases hn
        | cons a l => simp
      rw [hne, Bool.or_false] at hr
      exact hr
    · cases h

theorem litN_neg {v : List Bool} {n : Int} (hn : n ≠ 0) : litN v (-n) = !litN v n := by
  unfold litN
  rw [Int.natAbs_neg]
  have : decide (0 < -n) = !decide (0 < n) := by
    by_cases h : 0 < n
    · rw [decide_eq_true h, decide_eq_false (by omega)]; rfl
    · rw [decide_eq_false h, decide_eq_true (by omega)]; rfl
  rw [this]
  cases v.getD (n.natAbs - 1) false <;> cases decide (0 < n) <;> rfl

theorem sound_holds {vars : Int} {cls p : List (List Int)} {v : List Bool} (hc : clsE vars cls = 0) (hc2 : clsE vars (cls ++ p) = 0) (h : chkP cls p false = true) : (holdsE vars cls v).2 ≠ 0 ∨ (holdsE vars cls v).1 = false := by
  unfold holdsE
  rw [if_neg (fun h => h hc)]
  split
  · exact .inl (by decide)
  · right
    cases hb : holdB v cls with
    | false => rfl
    | true =>
      have hok := cls_ok hc2
      have := chkP_holds (A := litN v) (fun n hn => litN_neg hn) p cls false (fun c hc => by
        have := List.all_eq_true.1 hb c hc
        obtain ⟨n, hn, ht⟩ := List.any_eq_true.1 this
        exact ⟨n, hn, ht⟩) (fun c hc n hn => ((hok.one c (List.mem_append.2 (.inl hc))).2 n hn).1) (fun c hc n hn => ((hok.one c (List.mem_append.2 (.inr hc))).2 n hn).1) h
      cases this

theorem ProofSound_eq {vars : Int} {cls p : List (List Int)} {v : List Bool} (hs : SL cls) (hp : SL p) (hz : (cls.length + p.length) * 24 ≤ maxBytes) : callL pg 152 [clV vars cls, .sl false 1 (LLp p), LB v] [] = some (B true, []) := by
  have hC := PCheck_eq (vars := vars) hs hp hz
  have hH := Holds_eq (vars := vars) (v := v) (gh := []) hs
  have hcb := cnfBegun_true []
  have hpb := proofBegun_true
  -- it is said to be a proof, or not
  have hcase : (pcE vars cls p).2 ≠ 0 ∨ (pcE vars cls p).1 = false ∨ ((pcE vars cls p).2 = 0 ∧ (pcE vars cls p).1 = true ∧ ((holdsE vars cls v).2 ≠ 0 ∨ (holdsE vars cls v).1 = false)) := by
    unfold pcE
    by_cases hc : clsE vars cls = 0
    · rw [if_neg (fun h => h hc)]
      by_cases hc2 : clsE vars (cls ++ p) = 0
      · rw [if_neg (fun h => h hc2)]
        cases hr : chkP cls p false with
        | false => exact .inr (.inl rfl)
        | true => exact .inr (.inr ⟨rfl, rfl, sound_holds hc hc2 hr⟩)
      · rw [if_pos hc2]; exact .inl hc2
    · rw [if_pos hc]; exact .inl hc
  generalize pcE vars cls p = q at *
  generalize holdsE vars cls v = hq at *
  obtain ⟨q1, q2⟩ := q
  obtain ⟨h1, h2⟩ := hq
  simp only at *
  unfold clV at *
  simp only [LLp, LB] at *
  generalize (p.map fun l => LI l) = P at *
  generalize (cls.map fun l => LI l) = Q at *
  generalize v.map B = V at *
  refine callL_fn (fn := f_law_ProofSound) (s := ⟨[(6, B true)], [], []⟩) rfl rfl (D_law_ProofSound_0_ok ?h1) ?r1
  case h1 =>
    rcases hcase with hc | rfl | ⟨rfl, rfl, hh⟩
    · have hc' : decide (q2 = 0) = false := decide_eq_false hc
      simp [D_law_ProofSound_0, hpb, hcb, hC, hc']
    · cases hd : decide (q2 = 0)
      · simp [D_law_ProofSound_0, hpb, hcb, hC, hd]
      · simp [D_law_ProofSound_0, hpb, hcb, hC, hd]
    · rcases hh with hh | rfl
      · have hh' : decide (h2 = 0) = false := decide_eq_false hh
        simp [D_law_ProofSound_0, hpb, hcb, hC, hH, hh']
      · cases hd : decide (h2 = 0)
        · simp [D_law_ProofSound_0, hpb, hcb, hC, hH, hd]
        · simp [D_law_ProofSound_0, hpb, hcb, hC, hH, hd]
  case r1 => simp [finish, results, f_law_ProofSound, resOfs, resOf, resOk, get]

abbrev insProofSound : List (Bool × List CS) := [(true, clausesC), (false, [.slice false 24 [.slice false 8 [.int]]]), (false, [.slice false 1 [.bool]])]

theorem proofSound_true (qs : List PV) (h : argsTy insProofSound qs) (hn : bulkPs qs ≤ 1048576) : callL pg 152 qs [] = some (B true, []) := by
  obtain ⟨_, _, rfl, h0, h⟩ := argsTy_cons h
  obtain ⟨_, _, rfl, h1, h⟩ := argsTy_cons h
  obtain ⟨_, _, rfl, h2, h⟩ := argsTy_cons h
  obtain rfl := argsTy_nil h
  obtain ⟨vars, cls, rfl, hs⟩ := clauses_ty h0
  obtain ⟨p, rfl, hp⟩ := lists_ty h1
  obtain ⟨v, rfl, -⟩ := bools_ty h2
  refine ProofSound_eq hs hp ?_
  have e1 := bulkPs_len (cls.map fun l => LI l)
  have e2 := bulkPs_len (p.map fun l => LI l)
  have hmx : maxBytes = 140737488355328 := rfl
  simp only [bulkPs, bulkP, List.length_map, clV, LLp] at hn e1 e2
  omega

end Go.Lw
end
