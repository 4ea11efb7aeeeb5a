/-
  The texts that the proof stands on, part 12.
-/
import Derived.Test.YtmodipglnngghacSearchIsK
set_option linter.unusedVariables false
set_option linter.unusedSimpArgs false
set_option linter.unnecessarySimpa false

/-! Check of package proof, and the document's. -/
section
namespace Go.Lw
open Go
section
variable {gh : List GObj}
open Classical in
noncomputable def chkP : List (List Int) → List (List Int) → Bool → Bool
  | _, [], e => e
  | L, l :: r, e => if Conf L (negs l) then chkP (L ++ [l]) r (e || decide (l.length = 0)) else false
abbrev chSt (g : Nat) (e : Bool) (p : List (List Int)) (i : Nat) (gh : List GObj) : St := ⟨[(8, .ptr true g 0), (9, B e), (32, .sl false 1 (LLp p)), (33, I p.length), (34, I i)], [], gh⟩
open Classical in
theorem chk_step {g : Nat} {e : Bool} {p : List (List Int)} {i : Nat} {l : List Int} (hx : (LLp p)[i]? = some (LI l)) (hil : i < p.length) (hs : p.length ≤ 1600000) {r : Bool} {gh1 : List GObj} (hf : callL pg 155 [.ptr true g 0, LI l] gh = some (B r, gh1)) :
    (r = false → runL pg f_proof_Check_b1 (chSt g e p i gh) = some (.ret, ⟨[(4, B false), (5, I 0)], [], gh1⟩)) ∧
    (r = true → ∀ gh2, callL pg 157 [.ptr true g 0, LI l] gh1 = some (.tup [], gh2) → runL pg f_proof_Check_b1 (chSt g e p i gh) = some (.normal, chSt g (e || decide (l.length = 0)) p (i + 1) gh2)) := by
  have hltI : (i : Int) < (p.length : Int) := by omega
  have hwi : IntKind.i64.wrap ((i : Int) + 1) = ((i + 1 : Nat) : Int) := wrap_nat (by simp only [Sz]; omega)
  have hv : decide (l.map I = []) = decide (l.length = 0) := by cases l <;> simp
  refine ⟨fun hr => ?_, fun hr gh2 ha => ?_⟩
  · subst hr
    refine D_proof_Check_b1_ok ?_
    generalize LLp p = P at *
    simp only [LI] at *
    generalize l.map I = v at *
    simp [D_proof_Check_b1, hltI, hx, hf]
  · subst hr
    refine D_proof_Check_b1_ok ?_
    generalize hP : LLp p = P at *
    simp only [LI] at *
    generalize l.map I = v at *
    generalize decide (l.length = 0) = z at *
    cases e
    · simp [D_proof_Check_b1, hltI, hx, hf, ha, hwi, hv]
      exact hP.symm
    · simp [D_proof_Check_b1, hltI, hx, hf, ha, hwi]
      exact hP.symm
open Classical in
theorem chk_l1 {g : Nat} {c p : List (List Int)} (hok : OkL (c ++ p)) : ∀ (d i : Nat) (e : Bool) (gh : List GObj), i + d = p.length → Held gh g (c ++ p.take i) →
    (∃ gh', runL pg f_proof_Check_l1 (chSt g e p i gh) = some (.ret, ⟨[(4, B false), (5, I 0)], [], gh'⟩) ∧ chkP (c ++ p.take i) (p.drop i) e = false) ∨
    ∃ gh', runL pg f_proof_Check_l1 (chSt g e p i gh) = some (.normal, ⟨[(9, B (chkP (c ++ p.take i) (p.drop i) e))], [], gh'⟩) := by
  have hlen := hok.len
  rw [List.length_append] at hlen
  intro d
  induction d with
  | zero =>
    intro i e gh hi h
    have : i = p.length := by omega
    subst this
    rw [List.drop_length, chkP]
    have hlt : ¬ (p.length : Int) < (p.length : Int) := by omega
    refine .inr ⟨gh, (lp_exit (s1 := ⟨[(8, .ptr true g 0), (9, B e), (32, .sl false 1 (LLp p)), (33, I p.length), (34, I p.length), (35, B false)], [], gh⟩) (D_proof_Check_b1_ok ?h1)).trans ?r1⟩
    case h1 =>
      generalize LLp p = P at *
      simp [D_proof_Check_b1, hlt]
    case r1 => simp [keep, stays]
  | succ d ih =>
    intro i e gh hi h
    have hil : i < p.length := by omega
    obtain ⟨l, hl⟩ : ∃ l, p[i]? = some l := ⟨p[i], List.getElem?_eq_getElem hil⟩
    have hd : p.drop i = l :: p.drop (i + 1) := by
      rw [List.drop_eq_getElem_cons hil]
      rw [List.getElem?_eq_getElem hil] at hl
      rw [Option.some.inj hl]
    have ht : p.take (i + 1) = p.take i ++ [l] := by rw [List.take_add_one, hl]; rfl
    have hlm : l ∈ p := List.mem_of_getElem? hl
    have hx : (LLp p)[i]? = some (LI l) := by simp only [LLp]; rw [List.getElem?_map, hl]; rfl
    have hlo := hok.one l (List.mem_append.2 (.inr hlm))
    have hok2 : OkL (c ++ p.take i) := ⟨by simp; omega, fun x hx => by
      rcases List.mem_append.1 hx with h | h
      · exact hok.one x (List.mem_append.2 (.inl h))
      · exact hok.one x (List.mem_append.2 (.inr (List.mem_of_mem_take h)))⟩
    obtain ⟨gh1, f1, f2⟩ := held_follows h hok2 hlo
    have hst := chk_step (e := e) hx hil (by omega) f1
    rw [hd, chkP]
    by_cases hc : Conf (c ++ p.take i) (negs l)
    · rw [if_pos hc]
      obtain ⟨gh2, a1, a2⟩ := held_add f2 (l := l) hok2.len hlo.1
      have hstep := hst.2 (decide_eq_true hc) gh2 a1
      rw [List.append_assoc, ← ht] at a2
      have hr := ih (i + 1) (e || decide (l.length = 0)) gh2 (by omega) a2
      rw [List.append_assoc, ← ht]
      rw [show runL pg f_proof_Check_l1 (chSt g e p i gh) = runL pg f_proof_Check_l1 (chSt g (e || decide (l.length = 0)) p (i + 1) gh2) from lp_next hstep rfl]
      exact hr
    · rw [if_neg hc]
      exact .inl ⟨gh1, lp_ret (hst.1 (decide_eq_false hc)), rfl⟩
noncomputable def pcE (vars : Int) (cls p : List (List Int)) : Bool × Int :=
  if clsE vars cls ≠ 0 then (false, clsE vars cls) else if clsE vars (cls ++ p) ≠ 0 then (false, clsE vars (cls ++ p)) else (chkP cls p false, 0)
theorem PCheck_eq {vars : Int} {cls p : List (List Int)} (hs : SL cls) (hp : SL p) (hz : (cls.length + p.length) * 24 ≤ maxBytes) : callL pg 149 [clV vars cls, .sl false 1 (LLp p)] [] = some (.tup [B (pcE vars cls p).1, I (pcE vars cls p).2], []) := by
  have hC := CheckC_eq (gh := []) (vars := vars) hs
  have hs2 : SL (cls ++ p) := fun l hl => (List.mem_append.1 hl).elim (hs l) (hp l)
  have hC2 := CheckC_eq (gh := []) (vars := vars) hs2
  have hcc := ConcatP (gh := []) (X := LLp cls) (Y := LLp p) (noGs_lists cls) (noGs_lists p) (by rw [List.length_map, List.length_map]; exact hz)
  have hmap : (cls ++ p).map (fun l => LI l) = LLp cls ++ LLp p := by simp
  unfold pcE
  unfold clV at *
  rw [hmap] at hC2
  by_cases hc : clsE vars cls = 0
  · rw [if_neg (fun h => h hc)]
    rw [hc] at hC
    by_cases hc2 : clsE vars (cls ++ p) = 0
    · rw [if_neg (fun h => h hc2)]
      rw [hc2] at hC2
      have hok := cls_ok hc
      have hok2 := cls_ok hc2
      obtain ⟨gh1, p1, p2⟩ := open_eq hok.len (fun l hl => (hok.one l hl).1)
      have hl1 := chk_l1 (g := 1) hok2 p.length 0 false gh1 (by omega) (by rw [List.take_zero, List.append_nil]; exact p2)
      rw [List.take_zero, List.drop_zero, List.append_nil] at hl1
      generalize chkP cls p false = r at *
      have hpl : (LLp p).length = p.length := by simp
      have go : ∃ gh', runL pg f_proof_Check_l1 ⟨[(8, .ptr true 1 0), (9, B false), (32, .sl false 1 (LLp p)), (33, I (LLp p).length), (34, I 0)], [], gh1⟩ = some (.ret, ⟨[(4, B r), (5, I 0)], [], gh'⟩) ∨ runL pg f_proof_Check_l1 ⟨[(8, .ptr true 1 0), (9, B false), (32, .sl false 1 (LLp p)), (33, I (LLp p).length), (34, I 0)], [], gh1⟩ = some (.normal, ⟨[(9, B r)], [], gh'⟩) := by
        rw [hpl]
        rcases hl1 with ⟨gh', h1, rfl⟩ | ⟨gh', h1⟩
        · exact ⟨gh', .inl h1⟩
        · exact ⟨gh', .inr h1⟩
      obtain ⟨gh', go⟩ := go
      refine callL_fn (fn := f_proof_Check) (s := ⟨[(4, B r), (5, I 0)], [], gh'⟩) rfl rfl (D_proof_Check_0_ok ?h1) ?r1
      case h1 =>
        have k1 : runL pg f_proof_Check_k1 ⟨[(9, B r)], [], gh'⟩ = some (.ret, ⟨[(4, B r), (5, I 0)], [], gh'⟩) := D_proof_Check_k1_ok rfl
        simp only [LLp] at *
        generalize (p.map fun l => LI l) = P at *
        generalize (cls.map fun l => LI l) = Q at *
        rcases go with go | go
        · simp [D_proof_Check_0, hC, hcc, hC2, p1, go]
        · simp [D_proof_Check_0, hC, hcc, hC2, p1, go, k1]
      case r1 => simp [finish, results, f_proof_Check, resOfs, resOf, resOk, get]
    · rw [if_pos hc2]
      have hc' : decide (clsE vars (cls ++ p) = 0) = false := decide_eq_false hc2
      generalize clsE vars (cls ++ p) = e at *
      simp only [LLp] at *
      generalize (p.map fun l => LI l) = P at *
      generalize (cls.map fun l => LI l) = Q at *
      refine callL_fn (fn := f_proof_Check) (s := ⟨[(4, B false), (5, I e)], [], []⟩) rfl rfl (D_proof_Check_0_ok ?h2) ?r2
      case h2 => simp [D_proof_Check_0, hC, hcc, hC2, hc']
      case r2 => simp [finish, results, f_proof_Check, resOfs, resOf, resOk, get]
  · rw [if_pos hc]
    have hc' : decide (clsE vars cls = 0) = false := decide_eq_false hc
    generalize clsE vars cls = e at *
    simp only [LLp] at *
    generalize (p.map fun l => LI l) = P at *
    generalize (cls.map fun l => LI l) = Q at *
    refine callL_fn (fn := f_proof_Check) (s := ⟨[(4, B false), (5, I e)], [], []⟩) rfl rfl (D_proof_Check_0_ok ?h3) ?r3
    case h3 => simp [D_proof_Check_0, hC, hc']
    case r3 => simp [finish, results, f_proof_Check, resOfs, resOf, resOk, get]
end
end Go.Lw
end

/-! Proofs: what the document says of them; what must be in any case. -/
section
namespace Go.Lw
open Go
section
variable {gh : List GObj}
abbrev poSt (L p : List (List Int)) (e : Bool) (i : Nat) (gh : List GObj) : St := ⟨[(1, .sl false 1 (LLp p)), (5, .sl true 1 (LLp L)), (6, B e), (7, I i)], [], gh⟩
theorem po_step {L p : List (List Int)} {e : Bool} {i : Nat} {l : List Int} (hx : (LLp p)[i]? = some (LI l)) (hil : i < p.length) (hs : p.length ≤ 1600000) (hL : L.length ≤ 1600000) {r : Bool} (hf : callL pg 146 [.sl false 1 (LLp L), LI l] gh = some (B r, gh)) :
    runL pg f_ref_ProofOf_b1 (poSt L p e i gh) = if r = true then some (.normal, poSt (L ++ [l]) p (e || decide (l.length = 0)) (i + 1) gh) else some (.ret, ⟨[(4, B false)], [], gh⟩) := by
  have hltD : decide (i < p.length) = true := decide_eq_true hil
  have hpl : (LLp p).length = p.length := by simp
  have hLl : (LLp L).length = L.length := by simp
  have hmx : maxBytes = 140737488355328 := rfl
  have hbd : (L.length + 1) * 24 ≤ maxBytes := by omega
  have hwi : IntKind.i64.wrap ((i : Int) + 1) = ((i + 1 : Nat) : Int) := wrap_nat (by simp only [Sz]; omega)
  have hv : decide (l.map I = []) = decide (l.length = 0) := by cases l <;> simp
  have hm : LLp (L ++ [l]) = LLp L ++ [LI l] := by simp
  unfold poSt
  rw [hm]
  cases r
  · rw [if_neg (by simp)]
    refine D_ref_ProofOf_b1_ok ?_
    generalize LLp p = P at *
    generalize LLp L = Q at *
    simp only [LI] at *
    generalize l.map I = v at *
    simp only [D_ref_ProofOf_b1]
    simp [hpl, hltD, hx, hf]
  · rw [if_pos rfl]
    refine D_ref_ProofOf_b1_ok ?_
    generalize LLp p = P at *
    generalize LLp L = Q at *
    simp only [LI] at *
    generalize l.map I = v at *
    generalize decide (l.length = 0) = z at *
    simp only [D_ref_ProofOf_b1]
    cases e
    · simp [hpl, hltD, hx, hf, hLl, hbd, hwi, hv]
    · simp [hpl, hltD, hx, hf, hLl, hbd, hwi]
open Classical in
theorem po_l1 {c p : List (List Int)} (hok : OkL (c ++ p)) : ∀ (d i : Nat) (e : Bool), i + d = p.length →
    (runL pg f_ref_ProofOf_l1 (poSt (c ++ p.take i) p e i gh) = some (.ret, ⟨[(4, B false)], [], gh⟩) ∧ chkP (c ++ p.take i) (p.drop i) e = false) ∨
    runL pg f_ref_ProofOf_l1 (poSt (c ++ p.take i) p e i gh) = some (.normal, ⟨[(6, B (chkP (c ++ p.take i) (p.drop i) e))], [], gh⟩) := by
  have hlen := hok.len
  rw [List.length_append] at hlen
  intro d
  induction d with
  | zero =>
    intro i e hi
    have : i = p.length := by omega
    subst this
    rw [List.drop_length, chkP, List.take_length]
    have hpl : (LLp p).length = p.length := by simp
    refine .inr ((lp_exit (s1 := ⟨[(1, .sl false 1 (LLp p)), (5, .sl true 1 (LLp (c ++ p))), (6, B e), (7, I p.length), (15, B false)], [], gh⟩) (D_ref_ProofOf_b1_ok ?h1)).trans ?r1)
    case h1 =>
      simp only [D_ref_ProofOf_b1]
      generalize LLp p = P at *
      generalize LLp (c ++ p) = Q at *
      simp [hpl]
    case r1 => simp [keep, stays]
  | succ d ih =>
    intro i e hi
    have hil : i < p.length := by omega
    obtain ⟨l, hl⟩ : ∃ l, p[i]? = some l := ⟨p[i], List.getElem?_eq_getElem hil⟩
    have hd : p.drop i = l :: p.drop (i + 1) := by
      rw [List.drop_eq_getElem_cons hil]
      rw [List.getElem?_eq_getElem hil] at hl
      rw [Option.some.inj hl]
    have ht : p.take (i + 1) = p.take i ++ [l] := by rw [List.take_add_one, hl]; rfl
    have hlm : l ∈ p := List.mem_of_getElem? hl
    have hx : (LLp p)[i]? = some (LI l) := by simp only [LLp]; rw [List.getElem?_map, hl]; rfl
    have hlo := hok.one l (List.mem_append.2 (.inr hlm))
    have hok2 : OkL (c ++ p.take i) := ⟨by simp; omega, fun x hx => by
      rcases List.mem_append.1 hx with h | h
      · exact hok.one x (List.mem_append.2 (.inl h))
      · exact hok.one x (List.mem_append.2 (.inr (List.mem_of_mem_take h)))⟩
    have hf := FollowsOf_eq (gh := gh) hok2.len hok2.one hlo
    have hst := po_step (e := e) hx hil (by omega) hok2.len hf
    rw [hd, chkP]
    by_cases hc : Conf (c ++ p.take i) (negs l)
    · rw [if_pos hc]
      rw [if_pos (decide_eq_true hc)] at hst
      have hr := ih (i + 1) (e || decide (l.length = 0)) (by omega)
      rw [ht, ← List.append_assoc] at hr
      rw [show runL pg f_ref_ProofOf_l1 (poSt (c ++ p.take i) p e i gh) = runL pg f_ref_ProofOf_l1 (poSt (c ++ p.take i ++ [l]) p (e || decide (l.length = 0)) (i + 1) gh) from lp_next hst rfl]
      exact hr
    · rw [if_neg hc]
      rw [if_neg (by rw [decide_eq_false hc]; simp)] at hst
      exact .inl ⟨lp_ret hst, rfl⟩
theorem ProofOf_eq {vars : Int} {cls p : List (List Int)} (hok : OkL (cls ++ p)) : callL pg 151 [clV vars cls, .sl false 1 (LLp p)] gh = some (B (chkP cls p false), gh) := by
  have h1 := po_l1 (gh := gh) hok p.length 0 false (by omega)
  rw [List.take_zero, List.append_nil, List.drop_zero] at h1
  generalize chkP cls p false = r at *
  have hlen := hok.len
  rw [List.length_append] at hlen
  have hmx : maxBytes = 140737488355328 := rfl
  have hbd : cls.length * 24 ≤ maxBytes := by omega
  have hl : (cls.map fun l => LI l).length = cls.length := by simp
  unfold clV
  unfold poSt at h1
  simp only [LLp, Int.natCast_zero] at *
  generalize (p.map fun l => LI l) = P at *
  generalize (cls.map fun l => LI l) = Q at *
  have k1 : runL pg f_ref_ProofOf_k1 ⟨[(6, B r)], [], gh⟩ = some (.ret, ⟨[(4, B r)], [], gh⟩) := D_ref_ProofOf_k1_ok rfl
  refine callL_fn (fn := f_ref_ProofOf) (s := ⟨[(4, B r)], [], gh⟩) rfl rfl (D_ref_ProofOf_0_ok ?h1) ?r1
  case h1 =>
    rcases h1 with ⟨h1, rfl⟩ | h1
    · simp [D_ref_ProofOf_0, hl, hbd, h1]
    · simp [D_ref_ProofOf_0, hl, hbd, h1, k1]
  case r1 => simp [finish, results, f_ref_ProofOf, resOfs, resOf, resOk, get]
theorem CheckProof_eq {vars : Int} {cls p : List (List Int)} (hz : (cls.length + p.length) * 24 ≤ maxBytes) : callL pg 150 [clV vars cls, .sl false 1 (LLp p)] gh = some (I (if clsE vars cls = 0 then clsE vars (cls ++ p) else clsE vars cls), gh) := by
  have h1 := CheckCls_eq (gh := gh) (vars := vars) (cls := cls)
  have h2 := CheckCls_eq (gh := gh) (vars := vars) (cls := cls ++ p)
  have hmap : (cls ++ p).map (fun l => LI l) = LLp cls ++ LLp p := by simp
  have hl : (cls.map fun l => LI l).length = cls.length := by simp
  have hl2 : (p.map fun l => LI l).length = p.length := by simp
  have hmx : maxBytes = 140737488355328 := rfl
  have hbd : cls.length * 24 ≤ maxBytes := by omega
  have k1 : ∀ x, runL pg f_ref_CheckProof_k1 ⟨[(5, I x)], [], gh⟩ = some (.ret, ⟨[(4, I x)], [], gh⟩) := fun x => D_ref_CheckProof_k1_ok rfl
  unfold clV at *
  rw [hmap] at h2
  simp only [LLp] at *
  generalize clsE vars (cls ++ p) = e2 at *
  generalize clsE vars cls = e1 at *
  clear hmap
  generalize (p.map fun l => LI l) = P at *
  generalize (cls.map fun l => LI l) = Q at *
  by_cases hc : e1 = 0
  · subst hc
    rw [if_pos rfl]
    refine callL_fn (fn := f_ref_CheckProof) (s := ⟨[(4, I e2)], [], gh⟩) rfl rfl (D_ref_CheckProof_0_ok ?h1) ?r1
    case h1 => simp [D_ref_CheckProof_0, h1, h2, hl, hl2, hbd, hz, k1]
    case r1 => simp [finish, results, f_ref_CheckProof, resOfs, resOf, resOk, get]
  · rw [if_neg hc]
    have hc' : decide (e1 = 0) = false := decide_eq_false hc
    refine callL_fn (fn := f_ref_CheckProof) (s := ⟨[(4, I e1)], [], gh⟩) rfl rfl (D_ref_CheckProof_0_ok ?h2) ?r2
    case h2 => simp [D_ref_CheckProof_0, h1, hc', k1]
    case r2 => simp [finish, results, f_ref_CheckProof, resOfs, resOf, resOk, get]
end
end Go.Lw
end
