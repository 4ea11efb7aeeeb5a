/-
  The texts that the proof stands on, part 16.
-/
import Derived.Test.YtmodipglnngghabBlastChecksO
import Derived.Test.YtmodipglnngghabRows
import Derived.KernelRfl
set_option linter.unusedVariables false
set_option linter.unusedSimpArgs false
set_option linter.unnecessarySimpa false

/-! The second form's bound, told of what is opened. -/
section
namespace Go.Lw
open Go Go.Proofs.Ytmodipglnngghab
variable {H : Type}
mutual
theorem bulk_le : ∀ d : DataW H, bulk d ≤ Rows.uptoBulk d
  | .lit l => by cases l <;> simp [bulk, Rows.uptoBulk]
  | .nil => by simp [bulk, Rows.uptoBulk]
  | .ptr d => by simp [bulk, Rows.uptoBulk]
  | .slice elems spare => by
    have := bulkAll_le elems
    simp only [bulk, Rows.uptoBulk]; omega
  | .agg parts => by
    have := bulkAll_le parts
    simp only [bulk, Rows.uptoBulk]; omega
  | .iface t d => by simp [bulk, Rows.uptoBulk]
  | .map entries => by simp [bulk, Rows.uptoBulk]
  | .held h => by simp [bulk, Rows.uptoBulk]
theorem bulkAll_le : ∀ l : List (DataW H), bulkAll l ≤ Rows.uptoBulkAll l
  | [] => by simp [bulkAll, Rows.uptoBulkAll]
  | d :: r => by
    have := bulk_le d
    have := bulkAll_le r
    simp only [bulkAll, Rows.uptoBulkAll]; omega
end
theorem bulk_small {ds : List (DataW H)} (h : Rows.uptoSmall H (ds ++ []) = true) : bulkAll ds ≤ 1048576 := by
  rw [List.append_nil] at h
  have : Rows.uptoBulkAll ds ≤ 1048576 := by simpa [Rows.uptoSmall] using h
  exact Nat.le_trans (bulkAll_le ds) this
end Go.Lw
end

/-! The law GatesAnds, of the machine: it answers true. -/
section
namespace Go.Lw
open Go
section
variable {ins : Int} {ands : List (Int × Int)} {gh : List GObj}
end
theorem csOk_slice {g : Bool} {bytes : Nat} {l : List CS} {p : PV} (h : csOk (.slice g bytes l) p) : ∃ xs, p = .sl false l.length xs ∧ xs.length * bytes ≤ reachBytes ∧ ∀ e ∈ xs, (g = true ∧ ∃ ps, e = .agg ps ∧ csAll l ps) ∨ (g = false ∧ csAll l [e]) := by
  unfold csOk at h; exact h
theorem and_list : ∀ {xs : List PV}, (∀ e ∈ xs, (true = true ∧ ∃ ps, e = .agg ps ∧ csAll [.int, .int] ps) ∨ (true = false ∧ csAll [.int, .int] [e])) → ∃ ands, RA ands ∧ xs = ands.map andV
  | [], _ => ⟨[], fun x h => (by cases h), rfl⟩
  | e :: xs, h => by
    obtain ⟨ands, hr, rfl⟩ := and_list (xs := xs) fun e he => h e (List.mem_cons_of_mem _ he)
    rcases h e (by simp) with ⟨-, ps, rfl, hp⟩ | ⟨h, -⟩
    · obtain ⟨_, _, rfl, g0, hp⟩ := csAll_cons hp
      obtain ⟨_, _, rfl, g1, hp⟩ := csAll_cons hp
      obtain rfl := csAll_nil hp
      obtain ⟨a, rfl, ha⟩ := csOk_int g0
      obtain ⟨b, rfl, hb⟩ := csOk_int g1
      refine ⟨(a, b) :: ands, fun x hx => ?_, rfl⟩
      rcases List.mem_cons.1 hx with rfl | hx
      · exact ⟨ha, hb⟩
      · exact hr x hx
    · cases h
end Go.Lw
end

/-! The law GatesEvals, of the machine: it answers true. -/
section
namespace Go.Lw
open Go
section
variable {ins : Int} {ands : List (Int × Int)} {gh : List GObj}
theorem AreLits_loop (hi : 0 ≤ ins ∧ ins ≤ 1000) (hl : ands.length ≤ 1000000) {lits : List Int} (hs : Sz lits.length) : ∀ k i, i + k = lits.length →
    runL pg f_ref_AreLits_l1 ⟨[(1, LI lits), (2, .ptr false 0 0), (5, I (i : Int))], [[I ins, .sl false 2 (ands.map andV)]], gh⟩ =
      if (lits.drop i).all (isLit ins ands) = true then some (.normal, ⟨[], [], gh⟩) else some (.ret, ⟨[(4, B false)], [], gh⟩)
  | 0, i, h => by
    rw [List.drop_eq_nil_of_le (by omega), List.all_nil, if_pos rfl]
    have hlt : ¬ i < lits.length := by omega
    refine (lp_exit (s1 := ?s1) (D_ref_AreLits_b1_ok ?h1)).trans ?r1
    case h1 => simp [D_ref_AreLits_b1, hlt]; rfl
    case r1 => simp [keep]
  | k + 1, i, h => by
    have hlt : i < lits.length := by omega
    have e3 : IntKind.i64.wrap ((i : Int) + 1) = ((i + 1 : Nat) : Int) := wrap_nat (by simp only [Sz] at hs ⊢; omega)
    have hL := IsLit_eq (gh := gh) hi hl lits[i]
    unfold graphV at hL
    have hg : (lits.map I)[i]? = some (I lits[i]) := by simp [List.getElem?_eq_getElem hlt]
    rw [List.drop_eq_getElem_cons hlt, List.all_cons]
    cases hx : isLit ins ands lits[i] with
    | true =>
      rw [hx] at hL
      refine lp_next (s1 := ⟨[(1, LI lits), (2, .ptr false 0 0), (5, I ((i + 1 : Nat) : Int))], [[I ins, .sl false 2 (ands.map andV)]], gh⟩) (D_ref_AreLits_b1_ok ?h2) ?r2
      case h2 => simp [D_ref_AreLits_b1, hlt, hL, e3]
      case r2 =>
        rw [Bool.true_and]
        exact AreLits_loop hi hl hs k (i + 1) (by omega)
    | false =>
      rw [hx] at hL
      rw [Bool.false_and, if_neg (by simp)]
      refine lp_ret (D_ref_AreLits_b1_ok ?h3)
      case h3 => simp [D_ref_AreLits_b1, hlt, hL]
theorem AreLits_eq (hi : 0 ≤ ins ∧ ins ≤ 1000) (hl : ands.length ≤ 1000000) {lits : List Int} (hs : Sz lits.length) : callL pg 10 [graphV ins ands, LI lits] gh = some (B (lits.all (isLit ins ands)), gh) := by
  have h := AreLits_loop (gh := gh) hi hl hs lits.length 0 (by omega)
  rw [List.drop_zero] at h
  simp only [Int.natCast_zero] at h
  cases hx : lits.all (isLit ins ands) with
  | true =>
    rw [if_pos hx] at h
    have hk := D_ref_AreLits_k1_ok (pg := pg) (gh := gh) (e := .ret) (s := ⟨[(4, B true)], [], gh⟩) rfl
    refine callL_fn (fn := f_ref_AreLits) (s := ?s1) rfl rfl (D_ref_AreLits_0_ok ?h1) ?r1
    case h1 => simp [D_ref_AreLits_0, h, hk]; rfl
    case r1 => simp [finish, results, f_ref_AreLits, resOfs, resOf, resOk]
  | false =>
    rw [if_neg (by rw [hx]; simp)] at h
    refine callL_fn (fn := f_ref_AreLits) (s := ?s2) rfl rfl (D_ref_AreLits_0_ok ?h2) ?r2
    case h2 => simp [D_ref_AreLits_0, h]; rfl
    case r2 => simp [finish, results, f_ref_AreLits, resOfs, resOf, resOk]
end
def RI (l : List Int) : Prop := ∀ x ∈ l, -9223372036854775808 ≤ x ∧ x ≤ 9223372036854775807
theorem int_list : ∀ {xs : List PV}, (∀ e ∈ xs, (false = true ∧ ∃ ps, e = .agg ps ∧ csAll [.int] ps) ∨ (false = false ∧ csAll [.int] [e])) → ∃ v : List Int, RI v ∧ xs = v.map I
  | [], _ => ⟨[], fun x h => (by cases h), rfl⟩
  | e :: xs, h => by
    obtain ⟨v, hr, rfl⟩ := int_list (xs := xs) fun e he => h e (List.mem_cons_of_mem _ he)
    rcases h e (by simp) with ⟨h, -⟩ | ⟨-, hp⟩
    · cases h
    · obtain ⟨_, _, e1, g0, hp⟩ := csAll_cons hp
      cases csAll_nil hp
      simp only [List.cons.injEq, and_true] at e1
      subst e1
      obtain ⟨b, rfl, hb⟩ := csOk_int g0
      refine ⟨b :: v, fun x hx => ?_, rfl⟩
      rcases List.mem_cons.1 hx with rfl | hx
      · exact hb
      · exact hr x hx
theorem argTy_one {c : CS} {p : PV} (h : argTy (false, [c]) p) : csOk c p := by
  obtain ⟨q, ps, e, h1, h2⟩ := csAll_cons h
  cases csAll_nil h2
  simp only [List.cons.injEq, and_true] at e
  subst e; exact h1
theorem ints_ty {p : PV} (h : argTy (false, [.slice false 8 [.int]]) p) : ∃ v : List Int, p = LI v ∧ RI v ∧ v.length * 8 ≤ reachBytes := by
  obtain ⟨xs, rfl, hb, hx⟩ := csOk_slice (argTy_one h)
  obtain ⟨v, hr, rfl⟩ := int_list hx
  refine ⟨v, rfl, hr, ?_⟩
  simpa using hb
end Go.Lw
end

/-! Circuits: what Check comes to (the program's and the document's), and the law. -/
section
namespace Go.Lw
open Go
set_option maxRecDepth 100000 in
theorem blastBegun_true : callL pg 211 [] [] = some (B true, []) := says_yes (n := 2000) (by kernel_rfl)
structure Ci where
  ins : Int
  ands : List (Int × Int)
  inp : Int
  st : Int
  inits : List Int
  nexts : List Int
  bads : List Int
  holds : List Int
abbrev ciV (c : Ci) : PV := .agg [I c.ins, .sl false 2 (c.ands.map andV), I c.inp, I c.st, LI c.inits, LI c.nexts, LI c.bads, LI c.holds]
def ciE (c : Ci) : Int :=
  if chkE c.ins c.ands = 0 then
    if c.inp < 0 then 4 else if c.st < 0 then 4 else if IntKind.i64.wrap (c.inp + c.st) = c.ins then
      if (c.inits.length : Int) = c.st then if (c.nexts.length : Int) = c.st then
        if ((noNeg c.inits).all (isLit c.ins c.ands) && (c.nexts.all (isLit c.ins c.ands) && (c.bads.all (isLit c.ins c.ands) && c.holds.all (isLit c.ins c.ands)))) = true then 0 else 5
      else 1 else 1
    else 4
  else chkE c.ins c.ands
section
variable {gh : List GObj}
theorem clone_del {A : List Int} (h : A.length * 8 ≤ maxBytes) : ∃ r6 gh7 w6 r8 gh9, callL pg 121 [LI A] gh = some (r6, gh7) ∧ degr r6 = w6 ∧ (∀ {R : Type} (x : Option R), isC r6 x = x) ∧ (∀ {R : Type} (x : Option R), arK w6 x = x) ∧
    callL pg 343 [w6, .fn 215 []] gh7 = some (r8, gh9) ∧ Els gh9 r8 (noNeg A) ∧ gh9.take gh.length = gh := by
  have hm : maxBytes = 140737488355328 := rfl
  by_cases hA : A = []
  · subst hA
    refine ⟨.sl true 1 [], gh, .sl false 1 [], .sl false 1 [], gh, ?_, rfl, fun _ => rfl, fun _ => rfl, df_nil, .inl rfl, by simp⟩
    have : callL pg 121 [.sl false 1 []] gh = libCloneK 8 [.sl false 1 []] gh := rfl
    rw [show LI [] = .sl false 1 [] from rfl, this, libCloneK, if_pos rfl, libClone, if_pos ⟨rfl, by simp⟩]
  · have hfl : (A.map I).all isFlat = true := by
      rw [List.all_eq_true]; intro v hv; obtain ⟨n, -, rfl⟩ := List.mem_map.1 hv; rfl
    obtain ⟨i, zs, e1, e2, e3, e4⟩ := df_eq (gh := gh ++ [.stk 1 (A.map I)]) (xs := A) (b := gh.length) (g := 1) (by simp) (by simp) (by simp only [Sz]; omega)
    refine ⟨.stk gh.length 1 A.length, gh ++ [.stk 1 (A.map I)], .stk gh.length 1 A.length, _, _, ?_, rfl, fun _ => rfl, fun _ => rfl, e1, ?_, ?_⟩
    · have : callL pg 121 [.sl false 1 (A.map I)] gh = libCloneK 8 [.sl false 1 (A.map I)] gh := rfl
      rw [this, libCloneK, if_neg (by simpa using hA), if_pos ⟨rfl, by simpa using h, hfl⟩, List.length_map]
    · exact .inr ⟨_, _, _, zs, rfl, by simp, by omega, e4⟩
    · rw [List.take_set_of_le (Nat.le_refl _)]; simp
theorem BCheck_eq (c : Ci) (hr : RA c.ands) (hs : (c.inits.length + c.nexts.length + c.bads.length + c.holds.length) * 8 ≤ maxBytes) : callL pg 212 [ciV c] gh = some (I (ciE c), gh) := by
  have hm : maxBytes = 140737488355328 := rfl
  obtain ⟨ins, ands, inp, st, A, B', C, D⟩ := c
  simp only at hr hs
  have hC := Check_eq (ins := ins) (gh := gh) hr
  have fin : ∀ (e : Int) (s : St) (gh' : List GObj), s = ⟨[(2, I e)], [], gh'⟩ → gh'.take gh.length = gh → runL pg f_blast_Check_0 ⟨[(0, .agg [I ins, .sl false 2 (ands.map andV), I inp, I st, LI A, LI B', LI C, LI D])], [], gh⟩ = some (.ret, s) → callL pg 212 [.agg [I ins, .sl false 2 (ands.map andV), I inp, I st, LI A, LI B', LI C, LI D]] gh = some (I e, gh) := by
    intro e s gh' hs' ht hrun
    subst hs'
    refine callL_fn (fn := f_blast_Check) rfl rfl hrun ?_
    simp [finish, results, f_blast_Check, resOfs, resOf, resOk, get, ht]
  unfold ciE
  simp only [ciV]
  by_cases he : chkE ins ands = 0
  · rw [if_pos he]
    rw [he] at hC
    have hz := chkE_zero he
    have hI := fun {lits : List Int} {gh : List GObj} (hs : Sz lits.length) => Is_eq (gh := gh) (lits := lits) hz.1 hz.2.1 hs
    simp only [graphV] at hC hI
    generalize isLit ins ands = p at *
    generalize ands.map andV = G at *
    by_cases h1 : inp < 0
    · rw [if_pos h1]
      refine fin 4 _ gh rfl (by simp) (D_blast_Check_0_ok ?h1)
      case h1 => simp [D_blast_Check_0, hC, h1]
    rw [if_neg h1]
    by_cases h2 : st < 0
    · rw [if_pos h2]
      refine fin 4 _ gh rfl (by simp) (D_blast_Check_0_ok ?h2)
      case h2 => simp [D_blast_Check_0, hC, h1, h2]
    rw [if_neg h2]
    by_cases h3 : IntKind.i64.wrap (inp + st) = ins
    · rw [if_pos h3]
      by_cases h4 : (A.length : Int) = st
      · rw [if_pos h4]
        by_cases h5 : (B'.length : Int) = st
        · rw [if_pos h5]
          have e3 : (IntKind.i64.wrap (inp + st) != ins) = false := by simp [h3]
          have e4 : ((A.length : Int) != st) = false := by simp [h4]
          have e5 : ((B'.length : Int) != st) = false := by simp [h5]
          obtain ⟨r6, gh7, w6, r8, gh9, q1, q2, q3, q4, q5, q6, q7⟩ := clone_del (gh := gh) (A := A) (by omega)
          have hcc := cc_eq (gh := gh9) (l := [(r8, noNeg A), (LI B', B'), (LI C, C), (LI D, D)]) (by
            intro x hx
            simp only [List.mem_cons, List.not_mem_nil, or_false] at hx
            rcases hx with rfl | rfl | rfl | rfl
            · exact q6
            · exact .inl rfl
            · exact .inl rfl
            · exact .inl rfl) (by
              have : (noNeg A).length ≤ A.length := List.length_filter_le _ _
              simp only [sumL, List.map_cons, List.map_nil, List.sum_cons, List.sum_nil]
              omega) (by simp only [Sz, List.length_cons, List.length_nil]; omega)
          have hlen : Sz (noNeg A ++ (B' ++ (C ++ D))).length := by
            have : (noNeg A).length ≤ A.length := List.length_filter_le _ _
            simp only [List.length_append, Sz]; omega
          have his := hI (gh := gh9) hlen
          simp only [cV, List.map_cons, List.map_nil, List.flatMap_cons, List.flatMap_nil, List.append_nil] at hcc
          rw [show (noNeg A ++ (B' ++ (C ++ D))).all p = ((noNeg A).all p && (B'.all p && (C.all p && D.all p))) by simp only [List.all_append]] at his
          generalize ((noNeg A).all p && (B'.all p && (C.all p && D.all p))) = ok at *
          simp only [LI] at *
          generalize (noNeg A ++ (B' ++ (C ++ D))).map I = W at *
          cases ok with
          | true =>
            rw [if_pos rfl]
            refine fin 0 _ gh9 rfl q7 (D_blast_Check_0_ok ?h3)
            case h3 => simp [D_blast_Check_0, hC, h1, h2, h3, h4, h5, q1, q2, q3, q4, q5, q6.isC, q6.st, q6.dg, q6.ar, q6.ln, hcc, his]
          | false =>
            rw [if_neg (by decide)]
            refine fin 5 _ gh9 rfl q7 (D_blast_Check_0_ok ?h4)
            case h4 => simp [D_blast_Check_0, hC, h1, h2, h3, h4, h5, q1, q2, q3, q4, q5, q6.isC, q6.st, q6.dg, q6.ar, q6.ln, hcc, his]
        · rw [if_neg h5]
          refine fin 1 _ gh rfl (by simp) (D_blast_Check_0_ok ?h5)
          case h5 => simp [D_blast_Check_0, hC, h1, h2, h3, h4, h5]
      · rw [if_neg h4]
        refine fin 1 _ gh rfl (by simp) (D_blast_Check_0_ok ?h6)
        case h6 => simp [D_blast_Check_0, hC, h1, h2, h3, h4]
    · rw [if_neg h3]
      refine fin 4 _ gh rfl (by simp) (D_blast_Check_0_ok ?h7)
      case h7 => simp [D_blast_Check_0, hC, h1, h2, h3]
  · rw [if_neg he]
    have he' : (chkE ins ands != 0) = true := by simp [he]
    simp only [graphV] at hC
    generalize chkE ins ands = e at *
    generalize ands.map andV = G at *
    refine fin e _ gh rfl (by simp) (D_blast_Check_0_ok ?h8)
    case h8 => simp [D_blast_Check_0, hC, he]
end
end Go.Lw
end

/-! BlastChecks: the law answers true. -/
section
namespace Go.Lw
open Go
theorem noNeg_all (p : Int → Bool) (l : List Int) : (noNeg l).all p = l.all fun n => n == -1 || p n := by
  induction l with
  | nil => rfl
  | cons a l ih =>
    simp only [noNeg] at ih ⊢
    rw [List.filter_cons, List.all_cons, ← ih]
    cases h : a == -1 with
    | true => simp [bne, h]
    | false => simp [bne, h]
section
variable {gh : List GObj}
abbrev ciBox (ins : Int) (G : List PV) (inp st : Int) (A B' C D : List Int) : List PV := [I ins, .sl false 2 G, I inp, I st, LI A, LI B', LI C, LI D]
theorem rcc_loop {ins : Int} {G : List PV} {inp st : Int} {A B' C D : List Int} {p : Int → Bool} (hp : ∀ n, callL pg 3 [.agg [I ins, .sl false 2 G], I n] gh = some (B (p n), gh)) (hs : Sz A.length) : ∀ k i, i + k = A.length →
    runL pg f_ref_CheckCircuit_l1 ⟨[(1, .ptr false 0 0), (4, I (i : Nat))], [ciBox ins G inp st A B' C D], gh⟩ =
      if ((A.drop i).all fun n => n == -1 || p n) = true then some (.normal, ⟨[(1, .ptr false 0 0)], [ciBox ins G inp st A B' C D], gh⟩) else some (.ret, ⟨[(2, I 5)], [], gh⟩)
  | 0, i, h => by
    have hlt : ¬ i < A.length := by omega
    rw [List.drop_eq_nil_of_le (by omega)]
    refine (lp_exit (s1 := ?s1) (D_ref_CheckCircuit_b1_ok ?h1)).trans ?r1
    case h1 => simp [D_ref_CheckCircuit_b1, hlt]; rfl
    case r1 => simp [keep, stays]
  | k + 1, i, h => by
    have hlt : i < A.length := by omega
    have hx : (A.map I)[i]? = some (I A[i]) := by simp [hlt]
    have hn := hp A[i]
    have hw : IntKind.i64.wrap ((i : Int) + 1) = ((i + 1 : Nat) : Int) := wrap_nat (by simp only [Sz] at hs ⊢; omega)
    have ih := rcc_loop (inp := inp) (st := st) (B' := B') (C := C) (D := D) hp hs k (i + 1) (by omega)
    rw [List.drop_eq_getElem_cons hlt, List.all_cons]
    simp only [ciBox, LI] at ih ⊢
    generalize ((A.drop (i + 1)).all fun n => n == -1 || p n) = rest at *
    generalize A[i] = x at *
    have hltL : i < (A.map I).length := by simpa using hlt
    generalize A.map I = L at *
    have hx2 : L[i] = I x := by rw [List.getElem?_eq_getElem hltL] at hx; exact Option.some.inj hx
    obtain ⟨u, hu⟩ : ∃ u : Int, ((i + 1 : Nat) : Int) = u := ⟨_, rfl⟩
    rw [hu] at hw ih
    by_cases hm : x = -1
    · have hb : (x == -1 || p x) = true := by simp [hm]
      rw [hb, Bool.true_and]
      refine lp_next (D_ref_CheckCircuit_b1_ok ?h2) ih
      case h2 => simp [D_ref_CheckCircuit_b1, hltL, hx2, hm, hw]
    · cases hq : p x with
      | true =>
        rw [hq] at hn
        have hb : (x == -1 || true) = true := by simp
        rw [hb, Bool.true_and]
        refine lp_next (D_ref_CheckCircuit_b1_ok ?h3) ih
        case h3 => simp [D_ref_CheckCircuit_b1, hltL, hx2, hm, hw, hn]
      | false =>
        rw [hq] at hn
        have hb : (x == -1 || false) = false := by simp [hm]
        rw [hb, Bool.false_and, if_neg (by decide)]
        refine lp_ret (D_ref_CheckCircuit_b1_ok ?h4)
        case h4 => simp [D_ref_CheckCircuit_b1, hltL, hx2, hm, hn]
theorem RCheck_eq (c : Ci) (hr : RA c.ands) (hs : (c.inits.length + c.nexts.length + c.bads.length + c.holds.length) * 8 ≤ maxBytes) : callL pg 213 [ciV c] gh = some (I (ciE c), gh) := by
  have hm : maxBytes = 140737488355328 := rfl
  obtain ⟨ins, ands, inp, st, A, B', C, D⟩ := c
  simp only at hr hs
  have hC := CheckG_eq (ins := ins) (gh := gh) hr
  have fin : ∀ (e : Int) (s : St), s = ⟨[(2, I e)], [], gh⟩ → runL pg f_ref_CheckCircuit_0 ⟨[(0, .agg [I ins, .sl false 2 (ands.map andV), I inp, I st, LI A, LI B', LI C, LI D])], [], gh⟩ = some (.ret, s) → callL pg 213 [.agg [I ins, .sl false 2 (ands.map andV), I inp, I st, LI A, LI B', LI C, LI D]] gh = some (I e, gh) := by
    intro e s hs' hrun
    subst hs'
    refine callL_fn (fn := f_ref_CheckCircuit) rfl rfl hrun ?_
    simp [finish, results, f_ref_CheckCircuit, resOfs, resOf, resOk, get]
  unfold ciE
  simp only [ciV]
  by_cases he : chkE ins ands = 0
  · rw [if_pos he]
    rw [he] at hC
    have hz := chkE_zero he
    have hL := fun (lits : List Int) (hs : Sz lits.length) => AreLits_eq (gh := gh) (lits := lits) hz.1 hz.2.1 hs
    have h1L := fun (n : Int) => IsLit_eq (gh := gh) hz.1 hz.2.1 n
    rw [noNeg_all]
    simp only [graphV] at hC hL h1L
    generalize isLit ins ands = p at *
    generalize ands.map andV = G at *
    by_cases h1 : inp < 0
    · rw [if_pos h1]
      refine fin 4 _ rfl (D_ref_CheckCircuit_0_ok ?h1)
      case h1 => simp [D_ref_CheckCircuit_0, hC, h1]
    rw [if_neg h1]
    by_cases h2 : st < 0
    · rw [if_pos h2]
      refine fin 4 _ rfl (D_ref_CheckCircuit_0_ok ?h2)
      case h2 => simp [D_ref_CheckCircuit_0, hC, h1, h2]
    rw [if_neg h2]
    by_cases h3 : IntKind.i64.wrap (inp + st) = ins
    · rw [if_pos h3]
      by_cases h4 : (A.length : Int) = st
      · rw [if_pos h4]
        by_cases h5 : (B'.length : Int) = st
        · rw [if_pos h5]
          have hl := rcc_loop (inp := inp) (st := st) (B' := B') (C := C) (D := D) (A := A) h1L (by simp only [Sz]; omega) A.length 0 (by omega)
          have hB := hL B' (by simp only [Sz]; omega)
          have hC' := hL C (by simp only [Sz]; omega)
          have hD := hL D (by simp only [Sz]; omega)
          simp only [List.drop_zero, Int.natCast_zero, ciBox, LI] at hl hB hC' hD
          generalize (A.all fun n => n == -1 || p n) = a at *
          generalize B'.all p = b at *
          generalize C.all p = c at *
          generalize D.all p = d at *
          simp only [LI] at *
          have hk : runL pg f_ref_CheckCircuit_k1 ⟨[(1, .ptr false 0 0)], [[I ins, .sl false 2 G, I inp, I st, .sl false 1 (A.map I), .sl false 1 (B'.map I), .sl false 1 (C.map I), .sl false 1 (D.map I)]], gh⟩ = some (.ret, ⟨[(2, I (if (b && (c && d)) = true then 0 else 5))], [], gh⟩) := by
            refine D_ref_CheckCircuit_k1_ok ?_
            cases b
            · simp [D_ref_CheckCircuit_k1, hB]
            · cases c
              · simp [D_ref_CheckCircuit_k1, hB, hC']
              · cases d
                · simp [D_ref_CheckCircuit_k1, hB, hC', hD]
                · simp [D_ref_CheckCircuit_k1, hB, hC', hD]
          have hlA : (A.map I).length = A.length := List.length_map _
          have hlB : (B'.map I).length = B'.length := List.length_map _
          cases a with
          | true =>
            rw [if_pos rfl] at hl
            rw [Bool.true_and]
            have er : (if (b && (c && d)) = true then 0 else 5 : Int) = if (b && (c && d)) = true then (0 : Int) else 5 := rfl
            generalize (if (b && (c && d)) = true then (0 : Int) else 5) = r at *
            refine fin r _ rfl (D_ref_CheckCircuit_0_ok ?h3)
            case h3 => simp [D_ref_CheckCircuit_0, hC, h1, h2, h3, h4, h5, hl, hk]
          | false =>
            rw [if_neg (by decide)] at hl
            rw [Bool.false_and, if_neg (by decide)]
            refine fin 5 _ rfl (D_ref_CheckCircuit_0_ok ?h4)
            case h4 => simp [D_ref_CheckCircuit_0, hC, h1, h2, h3, h4, h5, hl]
        · rw [if_neg h5]
          refine fin 1 _ rfl (D_ref_CheckCircuit_0_ok ?h5)
          case h5 => simp [D_ref_CheckCircuit_0, hC, h1, h2, h3, h4, h5]
      · rw [if_neg h4]
        refine fin 1 _ rfl (D_ref_CheckCircuit_0_ok ?h6)
        case h6 => simp [D_ref_CheckCircuit_0, hC, h1, h2, h3, h4]
    · rw [if_neg h3]
      refine fin 4 _ rfl (D_ref_CheckCircuit_0_ok ?h7)
      case h7 => simp [D_ref_CheckCircuit_0, hC, h1, h2, h3]
  · rw [if_neg he]
    simp only [graphV] at hC
    generalize chkE ins ands = e at *
    generalize ands.map andV = G at *
    refine fin e _ rfl (D_ref_CheckCircuit_0_ok ?h8)
    case h8 => simp [D_ref_CheckCircuit_0, hC, he]
theorem BlastChecks_eq (c : Ci) (hr : RA c.ands) (hs : (c.inits.length + c.nexts.length + c.bads.length + c.holds.length) * 8 ≤ maxBytes) : callL pg 210 [ciV c] [] = some (B true, []) := by
  have h1 := BCheck_eq (gh := []) c hr hs
  have h2 := RCheck_eq (gh := []) c hr hs
  have hb := blastBegun_true
  simp only [ciV, LI] at h1 h2 ⊢
  generalize ciE c = e at *
  generalize c.ands.map andV = G at *
  generalize c.inits.map I = A at *
  generalize c.nexts.map I = B' at *
  generalize c.bads.map I = C at *
  generalize c.holds.map I = D at *
  refine callL_fn (fn := f_law_BlastChecks) (s := ⟨[(2, B true)], [], []⟩) rfl rfl (D_law_BlastChecks_0_ok ?h1) ?r1
  case h1 => simp [D_law_BlastChecks_0, h1, h2, hb]
  case r1 => simp [finish, results, f_law_BlastChecks, resOfs, resOf, resOk, get]
end
def circuitC : List CS := [.int, .slice true 16 [.int, .int], .int, .int, .slice false 8 [.int], .slice false 8 [.int], .slice false 8 [.int], .slice false 8 [.int]]
theorem circuit_ty {p : PV} (h : argTy (true, circuitC) p) : ∃ c : Ci, p = ciV c ∧ RA c.ands := by
  obtain ⟨ps, rfl, hp⟩ := argTy_agg h
  obtain ⟨_, _, rfl, g0, hp⟩ := csAll_cons hp
  obtain ⟨_, _, rfl, g1, hp⟩ := csAll_cons hp
  obtain ⟨_, _, rfl, g2, hp⟩ := csAll_cons hp
  obtain ⟨_, _, rfl, g3, hp⟩ := csAll_cons hp
  obtain ⟨_, _, rfl, g4, hp⟩ := csAll_cons hp
  obtain ⟨_, _, rfl, g5, hp⟩ := csAll_cons hp
  obtain ⟨_, _, rfl, g6, hp⟩ := csAll_cons hp
  obtain ⟨_, _, rfl, g7, hp⟩ := csAll_cons hp
  obtain rfl := csAll_nil hp
  obtain ⟨ins, rfl, -⟩ := csOk_int g0
  obtain ⟨xs, rfl, hb, hx⟩ := csOk_slice g1
  obtain ⟨ands, hr, rfl⟩ := and_list hx
  obtain ⟨a, rfl, -⟩ := csOk_int g2
  obtain ⟨b, rfl, -⟩ := csOk_int g3
  obtain ⟨l1, rfl, -⟩ := ints_ty (p := _) (show argTy (false, [.slice false 8 [.int]]) _ from ⟨g4, trivial⟩)
  obtain ⟨l2, rfl, -⟩ := ints_ty (p := _) (show argTy (false, [.slice false 8 [.int]]) _ from ⟨g5, trivial⟩)
  obtain ⟨l3, rfl, -⟩ := ints_ty (p := _) (show argTy (false, [.slice false 8 [.int]]) _ from ⟨g6, trivial⟩)
  obtain ⟨l4, rfl, -⟩ := ints_ty (p := _) (show argTy (false, [.slice false 8 [.int]]) _ from ⟨g7, trivial⟩)
  exact ⟨⟨ins, ands, a, b, l1, l2, l3, l4⟩, rfl, hr⟩
abbrev insBlastChecks : List (Bool × List CS) := [(true, circuitC)]
theorem blastChecks_true (qs : List PV) (h : argsTy insBlastChecks qs) (hn : bulkPs qs ≤ 1048576) : callL pg 210 qs [] = some (B true, []) := by
  obtain ⟨_, _, rfl, h0, h⟩ := argsTy_cons h
  obtain rfl := argsTy_nil h
  obtain ⟨c, rfl, hr⟩ := circuit_ty h0
  have hmx : maxBytes = 140737488355328 := rfl
  have e1 := bulkPs_len (c.inits.map I)
  have e2 := bulkPs_len (c.nexts.map I)
  have e3 := bulkPs_len (c.bads.map I)
  have e4 := bulkPs_len (c.holds.map I)
  simp only [bulkPs, bulkP, List.length_map, ciV, LI] at hn e1 e2 e3 e4
  exact BlastChecks_eq c hr (by omega)
end Go.Lw
end
