/-
  The texts that the proof stands on, part 10.
-/
import Derived.Test.YtmodipglnngghabEvalValuesI
import Derived.KernelRfl
set_option linter.unusedVariables false
set_option linter.unusedSimpArgs false
set_option linter.unnecessarySimpa false

/-! Models: all pairs, marks, and the whole check (the program). -/
section
namespace Go.Lw
open Go
def pairsAll (m : Md) (f : List Bool) : Int :=
  if pairsE m.nodes f true m.inits ≠ 0 then pairsE m.nodes f true m.inits else if pairsE m.nodes f false m.nexts ≠ 0 then pairsE m.nodes f false m.nexts
  else if twice m.inits ∨ twice m.nexts then 6 else 0
section
variable {m : Md} {gh : List GObj}
theorem pairs_l1 {f : List Bool} (hf : f.length = m.nodes.length) (h1 : Sz m.inits.length) (h2 : Sz m.nexts.length) :
    runL pg f_model_checker_pairs_l1 ⟨[(0, .ptr true gh.length 0), (23, twoL m), (24, I 2), (25, I 0)], [], ckG gh m f⟩ =
      if pairsE m.nodes f true m.inits ≠ 0 then some (.ret, ⟨[(2, I (pairsE m.nodes f true m.inits))], [], ckG gh m f⟩)
      else if pairsE m.nodes f false m.nexts ≠ 0 then some (.ret, ⟨[(2, I (pairsE m.nodes f false m.nexts))], [], ckG gh m f⟩)
      else some (.normal, ⟨[(0, .ptr true gh.length 0)], [], ckG gh m f⟩) := by
  have l1 := pairs_loop2 (gh := gh) (m := m) (ps := m.inits) (k := 0) hf h1 m.inits.length 0 (by omega)
  have l2 := pairs_loop2 (gh := gh) (m := m) (ps := m.nexts) (k := 1) hf h2 m.nexts.length 0 (by omega)
  rw [List.drop_zero] at l1 l2
  unfold pr2St at l1 l2
  simp only [Int.natCast_zero, decide_true] at l1 l2
  rw [show decide (1 = 0) = false from rfl] at l2
  simp only [Int.natCast_one] at l1 l2
  have w1 : IntKind.i64.wrap (0 + 1) = 1 := by decide
  have w2 : IntKind.i64.wrap (1 + 1) = 2 := by decide
  have k1 : ∀ x, runL pg f_model_checker_pairs_k1 ⟨[(0, .ptr true gh.length 0), (23, twoL m), (24, I 2), (25, I x)], [], ckG gh m f⟩ = some (.normal, ⟨[(0, .ptr true gh.length 0), (23, twoL m), (24, I 2), (25, I (IntKind.i64.wrap (x + 1)))], [], ckG gh m f⟩) := fun x => by
    refine D_model_checker_pairs_k1_ok ?_
    simp [D_model_checker_pairs_k1]
  generalize ckG gh m f = g0 at *
  by_cases e1 : pairsE m.nodes f true m.inits = 0
  · rw [if_pos e1] at l1
    rw [if_neg (fun h => h e1)]
    have k10 := k1 0
    rw [w1] at k10
    refine lp_next (s1 := ⟨[(0, .ptr true gh.length 0), (23, twoL m), (24, I 2), (25, I 1)], [], g0⟩) (D_model_checker_pairs_b1_ok (by simp [D_model_checker_pairs_b1, l1, k10])) ?_
    by_cases e2 : pairsE m.nodes f false m.nexts = 0
    · rw [if_pos e2] at l2
      rw [if_neg (fun h => h e2)]
      have k11 := k1 1
      rw [w2] at k11
      refine lp_next (s1 := ⟨[(0, .ptr true gh.length 0), (23, twoL m), (24, I 2), (25, I 2)], [], g0⟩) (D_model_checker_pairs_b1_ok (by simp [D_model_checker_pairs_b1, l2, k11])) ?_
      refine (lp_exit (s1 := ?s1) (D_model_checker_pairs_b1_ok ?h1)).trans ?r1
      case h1 => simp [D_model_checker_pairs_b1]; rfl
      case r1 => simp [keep, stays]
    · rw [if_neg e2] at l2
      rw [if_pos e2]
      refine lp_ret (D_model_checker_pairs_b1_ok ?_)
      simp [D_model_checker_pairs_b1, l2]
  · rw [if_neg e1] at l1
    rw [if_pos e1]
    refine lp_ret (D_model_checker_pairs_b1_ok ?_)
    simp [D_model_checker_pairs_b1, l1]
theorem pairs_l3 (h1 : Sz m.inits.length) (h2 : Sz m.nexts.length) : ∃ g2,
    runL pg f_model_checker_pairs_l3 ⟨[(56, twoL m), (57, I 2), (58, I 0)], [], gh⟩ =
      if twice m.inits ∨ twice m.nexts then some (.ret, ⟨[(2, I 6)], [], gh ++ g2⟩) else some (.normal, ⟨[], [], gh ++ g2⟩) := by
  have b1 := pairs_b3 (gh := gh) (m := m) (ps := m.inits) (k := 0) (.inl ⟨rfl, rfl⟩) h1
  have b2 := fun g => pairs_b3 (gh := g) (m := m) (ps := m.nexts) (k := 1) (.inr ⟨rfl, rfl⟩) h2
  simp only [Int.natCast_zero, Int.natCast_one, Nat.zero_add, show ((1 + 1 : Nat) : Int) = 2 from rfl] at b1 b2
  generalize insA [] (m.inits.map (·.1)) = A at *
  generalize insA [] (m.nexts.map (·.1)) = B at *
  by_cases t1 : twice m.inits
  · rw [if_pos t1] at b1
    exact ⟨_, by rw [if_pos (.inl t1)]; exact lp_ret b1⟩
  · rw [if_neg t1] at b1
    have b2 := b2 (gh ++ [.map (mapB A)])
    by_cases t2 : twice m.nexts
    · rw [if_pos t2] at b2
      refine ⟨[.map (mapB A)] ++ [.map (mapB B)], ?_⟩
      rw [if_pos (.inr t2), ← List.append_assoc]
      exact lp_next b1 (lp_ret b2)
    · rw [if_neg t2] at b2
      refine ⟨[.map (mapB A)] ++ [.map (mapB B)], ?_⟩
      rw [if_neg (by rintro (h | h) <;> contradiction), ← List.append_assoc]
      refine lp_next b1 (lp_next b2 ((lp_exit (s1 := ?s1) (D_model_checker_pairs_b3_ok ?h1)).trans ?r1))
      case h1 => simp [D_model_checker_pairs_b3]; rfl
      case r1 => simp [keep]
theorem pairs_eq {f : List Bool} (hf : f.length = m.nodes.length) (h1 : Sz m.inits.length) (h2 : Sz m.nexts.length) :
    callL pg 79 [.ptr true gh.length 0] (ckG gh m f) = some (I (pairsAll m f), ckG gh m f) := by
  have l1 := pairs_l1 (gh := gh) hf h1 h2
  obtain ⟨g2, l3⟩ := pairs_l3 (m := m) (gh := ckG gh m f) h1 h2
  have hg := ckG_get (gh := gh) (m := m) (f := f)
  unfold pairsAll
  have k5 : ∀ g, runL pg f_model_checker_pairs_k5 ⟨[], [], g⟩ = some (.ret, ⟨[(2, I 0)], [], g⟩) := fun g => D_model_checker_pairs_k5_ok rfl
  have k2 : runL pg f_model_checker_pairs_k2 ⟨[(0, .ptr true gh.length 0)], [], ckG gh m f⟩ = some (.ret, ⟨[(2, I (if twice m.inits ∨ twice m.nexts then 6 else 0))], [], ckG gh m f ++ g2⟩) := by
    refine D_model_checker_pairs_k2_ok ?_
    generalize ckG gh m f = g0 at *
    have k5 := k5 (g0 ++ g2)
    by_cases t : twice m.inits ∨ twice m.nexts
    · rw [if_pos t] at l3
      simp [D_model_checker_pairs_k2, hg, l3, t]
    · rw [if_neg t] at l3
      simp [D_model_checker_pairs_k2, hg, l3, t, k5]
  generalize (if twice m.inits ∨ twice m.nexts then (6 : Int) else 0) = r at *
  generalize ckG gh m f = g0 at *
  by_cases e1 : pairsE m.nodes f true m.inits = 0
  · rw [if_neg (fun h => h e1)] at l1 ⊢
    by_cases e2 : pairsE m.nodes f false m.nexts = 0
    · rw [if_neg (fun h => h e2)] at l1 ⊢
      refine callL_fn (fn := f_model_checker_pairs) (s := ?s1) rfl rfl (D_model_checker_pairs_0_ok ?h1) ?r1
      case h1 => simp [D_model_checker_pairs_0, hg, l1, k2]; rfl
      case r1 => simp [finish, results, f_model_checker_pairs, resOfs, resOf, resOk]
    · rw [if_pos e2] at l1 ⊢
      refine callL_fn (fn := f_model_checker_pairs) (s := ?s2) rfl rfl (D_model_checker_pairs_0_ok ?h2) ?r2
      case h2 => simp [D_model_checker_pairs_0, hg, l1]; rfl
      case r2 => simp [finish, results, f_model_checker_pairs, resOfs, resOf, resOk]
  · rw [if_pos e1] at l1 ⊢
    refine callL_fn (fn := f_model_checker_pairs) (s := ?s3) rfl rfl (D_model_checker_pairs_0_ok ?h3) ?r3
    case h3 => simp [D_model_checker_pairs_0, hg, l1]; rfl
    case r3 => simp [finish, results, f_model_checker_pairs, resOfs, resOf, resOk]
def marksE (m : Md) : Int :=
  if m.nexts.length < (kindL m.nodes 3).length then 5 else if (m.bads ++ m.holds).any (fun a => !decide (isNo m.nodes a)) then 5
  else if (m.bads ++ m.holds).any (fun a => !decide (wAt m.nodes a = 1)) then 1 else 0
theorem marks1_eq {f : List Bool} {n : Int} {g : List GObj} {b c : Nat} (hb : g[b]? = some (.cells [LN m.nodes, LP m.inits, LP m.nexts, LI m.bads, LI m.holds, .sl true 1 (f.map B)])) (hc : g[c]? = some (.cells [.ptr true b 0])) :
    callL pg 108 [I n, .ptr true c 0] g = some (B (!decide (isNo m.nodes n)), g) := by
  have i1 := is_eq (n := n) hb
  generalize decide (isNo m.nodes n) = d at *
  refine callL_fn (fn := f_model_checker_marks_1) (s := ?s1) rfl rfl (D_model_checker_marks_1_0_ok ?h1) ?r1
  case h1 => simp [D_model_checker_marks_1_0, hc, i1]; rfl
  case r1 => simp [finish, results, f_model_checker_marks_1, resOfs, resOf, resOk]
theorem marks2_eq {f : List Bool} {n : Int} {g : List GObj} {b c : Nat} (hb : g[b]? = some (.cells [LN m.nodes, LP m.inits, LP m.nexts, LI m.bads, LI m.holds, .sl true 1 (f.map B)])) (hc : g[c]? = some (.cells [.ptr true b 0])) (hn : isNo m.nodes n) :
    callL pg 109 [I n, .ptr true c 0] g = some (B (!decide (wAt m.nodes n = 1)), g) := by
  have n1 := node_at hn
  have h0 := hn.1
  unfold wAt
  generalize m.nodes.getD n.toNat default = d1 at *
  rw [nodeV_def d1] at n1
  refine callL_fn (fn := f_model_checker_marks_2) (s := ?s1) rfl rfl (D_model_checker_marks_2_0_ok ?h1) ?r1
  case h1 => simp [D_model_checker_marks_2_0, hb, hc, h0, n1, -List.getElem?_map]; rfl
  case r1 => simp [finish, results, f_model_checker_marks_2, resOfs, resOf, resOk]
theorem marks_eq {f : List Bool} (hl : m.nodes.length ≤ 1000) (h1 : m.bads.length ≤ 100) (h2 : m.holds.length ≤ 100) :
    callL pg 80 [.ptr true gh.length 0] (ckG gh m f) = some (I (marksE m), ckG gh m f) := by
  have hg := ckG_get (gh := gh) (m := m) (f := f)
  have hlen : (ckG gh m f).length = gh.length + 1 := by simp [ckG]
  generalize ckG gh m f = g0 at *
  obtain ⟨g1, hg1⟩ : ∃ g1, g1 = g0 ++ [GObj.cells [.ptr true gh.length 0]] := ⟨_, rfl⟩
  have htk : g1.take g0.length = g0 := by rw [hg1]; simp
  have hb : g1[gh.length]? = some (.cells [LN m.nodes, LP m.inits, LP m.nexts, LI m.bads, LI m.holds, .sl true 1 (f.map B)]) := by
    rw [hg1, List.getElem?_append_left (by omega)]; exact hg
  have hc : g1[g0.length]? = some (.cells [.ptr true gh.length 0]) := by rw [hg1]; simp
  have ho := Ofk_eq (m := m) (gh := g1) (kind := 3) hl
  rw [modelV_def] at ho
  have hmx : ((m.bads.map I).length + (m.holds.map I).length) * 8 ≤ maxBytes := by
    have : maxBytes = 140737488355328 := rfl
    simp; omega
  have hsz : Sz (m.bads ++ m.holds).length := by simp only [Sz, List.length_append]; omega
  have hcc := Concat_eq (gh := g1) (X := m.bads.map I) (Y := m.holds.map I) (noGs_ints _) (noGs_ints _) hmx
  rw [← List.map_append] at hcc
  have c1 := ContainsFunc_eq (xs := m.bads ++ m.holds) (c := 108) (caps := [.ptr true g0.length 0]) (gh := g1) (fun x _ => marks1_eq (n := x) hb hc) rfl hsz
  have c2 : (∀ a ∈ m.bads ++ m.holds, isNo m.nodes a) → _ := fun hn => ContainsFunc_eq (xs := m.bads ++ m.holds) (c := 109) (caps := [.ptr true g0.length 0]) (gh := g1) (fun x hx => marks2_eq hb hc (hn x hx)) rfl hsz
  have hnb : (m.bads ++ m.holds).any (fun a => !decide (isNo m.nodes a)) = false → ∀ a ∈ m.bads ++ m.holds, isNo m.nodes a := fun h a ha => by
    have := List.any_eq_false.1 h a ha
    simpa using this
  unfold marksE
  generalize (m.bads ++ m.holds).any (fun a => !decide (isNo m.nodes a)) = p1 at *
  generalize (m.bads ++ m.holds).any (fun a => !decide (wAt m.nodes a = 1)) = p2 at *
  generalize hK : kindL m.nodes 3 = K at *
  have hKl : (K.map I).length = K.length := by simp
  have hXl : (m.nexts.map andV).length = m.nexts.length := by simp
  simp only [LI] at *
  generalize (m.bads ++ m.holds).map I = M at *
  generalize m.bads.map I = M1 at *
  generalize m.holds.map I = M2 at *
  generalize K.map I = K' at *
  generalize m.nexts.map andV = X' at *
  by_cases e1 : m.nexts.length < K.length
  · rw [if_pos e1]
    refine callL_fn (fn := f_model_checker_marks) (s := ⟨[(2, I 5)], [], g1⟩) rfl rfl (D_model_checker_marks_0_ok ?h1) ?r1
    case h1 => simp only [D_model_checker_marks_0]; rw [← hg1]; simp [hb, hc, ho, hKl, e1]
    case r1 => simp [finish, results, f_model_checker_marks, resOfs, resOf, resOk, htk]
  · rw [if_neg e1]
    cases p1 with
    | true =>
      rw [if_pos rfl]
      refine callL_fn (fn := f_model_checker_marks) (s := ⟨[(2, I 5)], [], g1⟩) rfl rfl (D_model_checker_marks_0_ok ?h2) ?r2
      case h2 => simp only [D_model_checker_marks_0]; rw [← hg1]; simp [hb, hc, ho, hKl, e1, hcc, c1]
      case r2 => simp [finish, results, f_model_checker_marks, resOfs, resOf, resOk, htk]
    | false =>
      rw [if_neg (by simp)]
      have c2 := c2 (hnb rfl)
      cases p2 with
      | true =>
        rw [if_pos rfl]
        refine callL_fn (fn := f_model_checker_marks) (s := ⟨[(2, I 1)], [], g1⟩) rfl rfl (D_model_checker_marks_0_ok ?h3) ?r3
        case h3 => simp only [D_model_checker_marks_0]; rw [← hg1]; simp [hb, hc, ho, hKl, e1, hcc, c1, c2]
        case r3 => simp [finish, results, f_model_checker_marks, resOfs, resOf, resOk, htk]
      | false =>
        rw [if_neg (by simp)]
        refine callL_fn (fn := f_model_checker_marks) (s := ⟨[(2, I 0)], [], g1⟩) rfl rfl (D_model_checker_marks_0_ok ?h4) ?r4
        case h4 => simp only [D_model_checker_marks_0]; rw [← hg1]; simp [hb, hc, ho, hKl, e1, hcc, c1, c2]
        case r4 => simp [finish, results, f_model_checker_marks, resOfs, resOf, resOk, htk]
def nodesE (L : List Nd) : Nat → List Nd → Int
  | _, [] => 0
  | i, x :: l => if nodeE L i x = 0 then nodesE L (i + 1) l else nodeE L i x
def checkE (m : Md) : Int :=
  if m.nodes.length > 80 ∨ m.bads.length > 8 ∨ m.holds.length > 8 then 2
  else if nodesE m.nodes 0 m.nodes ≠ 0 then nodesE m.nodes 0 m.nodes
  else if bitsK m.nodes 2 > 6 ∨ bitsK m.nodes 3 > 10 then 2
  else if pairsAll m (hangF [] m.nodes) ≠ 0 then pairsAll m (hangF [] m.nodes) else marksE m
theorem nodesE_zero {L : List Nd} : ∀ {i : Nat} {l : List Nd}, nodesE L i l = 0 → ∀ j x, l[j]? = some x → nodeE L ((i + j : Nat) : Int) x = 0
  | i, y :: l, h, 0, x, hx => by
    rw [nodesE] at h
    simp at hx
    subst hx
    split at h
    · assumption
    · contradiction
  | i, y :: l, h, j + 1, x, hx => by
    rw [nodesE] at h
    split at h
    · have := nodesE_zero h j x (by simpa using hx)
      rw [show i + (j + 1) = i + 1 + j by omega]; exact this
    · contradiction
theorem ahead_of {L : List Nd} (h : nodesE L 0 L = 0) : Ahead L := by
  intro i x hx a ha
  have h0 := nodesE_zero h i x hx
  rw [Nat.zero_add] at h0
  unfold nodeE at h0
  split at h0
  · omega
  rename_i hk
  split at h0
  · omega
  split at h0
  · rename_i hk3
    unfold argsL at ha
    rw [takes_leaf ⟨by omega, hk3⟩] at ha
    simp at ha
  split at h0
  · omega
  rename_i hb
  unfold badArgs badJ at hb
  simp only [not_or] at hb
  obtain ⟨b0, b1, b2⟩ := hb
  unfold argsL at ha
  rcases takes_cases x.k with ht | ht | ht | ht <;> rw [ht] at ha b0 b1 b2 <;> simp at ha b0 b1 b2
  · subst ha; exact ⟨by omega, by omega⟩
  · rcases ha with rfl | rfl <;> exact ⟨by omega, by omega⟩
  · rcases ha with rfl | rfl | rfl <;> exact ⟨by omega, by omega⟩
theorem MCheck_loop (hl : m.nodes.length ≤ 1000) : ∀ k i, i + k = m.nodes.length →
    runL pg f_model_Check_l1 ⟨[(1, .ptr false 0 0), (27, I m.nodes.length), (28, I (i : Int))], [[LN m.nodes, LP m.inits, LP m.nexts, LI m.bads, LI m.holds]], gh⟩ =
      if nodesE m.nodes i (m.nodes.drop i) = 0 then some (.normal, ⟨[(1, .ptr false 0 0)], [[LN m.nodes, LP m.inits, LP m.nexts, LI m.bads, LI m.holds]], gh⟩)
      else some (.ret, ⟨[(2, I (nodesE m.nodes i (m.nodes.drop i)))], [], gh⟩)
  | 0, i, h => by
    rw [List.drop_eq_nil_of_le (by omega), nodesE, if_pos rfl]
    have hlt : ¬ (i : Int) < (m.nodes.length : Int) := by omega
    refine (lp_exit (s1 := ?s1) (D_model_Check_b1_ok ?h1)).trans ?r1
    case h1 => simp only [D_model_Check_b1, decide_eq_false hlt, br_false]; rfl
    case r1 => simp [keep, stays]
  | k + 1, i, h => by
    have hlt : i < m.nodes.length := by omega
    have hltI : (i : Int) < (m.nodes.length : Int) := by omega
    have e2 : IntKind.i64.wrap ((i : Int) + 1) = ((i + 1 : Nat) : Int) := by rw [wrap_id (by omega) (by omega)]; omega
    have hn := node_eq (l := m.nodes) (gh := gh) (idx := i) (List.getElem?_eq_getElem hlt)
    rw [List.drop_eq_getElem_cons hlt, nodesE]
    generalize nodeE m.nodes (i : Int) m.nodes[i] = r at *
    by_cases he : r = 0
    · rw [if_pos he]
      refine lp_next (s1 := ⟨[(1, .ptr false 0 0), (27, I m.nodes.length), (28, I ((i + 1 : Nat) : Int))], [[LN m.nodes, LP m.inits, LP m.nexts, LI m.bads, LI m.holds]], gh⟩) (D_model_Check_b1_ok ?_) (MCheck_loop hl k (i + 1) (by omega))
      simp [D_model_Check_b1, hltI, hn, he, e2]
    · rw [if_neg he, if_neg he]
      refine lp_ret (D_model_Check_b1_ok ?_)
      simp [D_model_Check_b1, hltI, hn, he]
theorem MCheck_eq (h1 : Sz m.inits.length) (h2 : Sz m.nexts.length) : callL pg 38 [modelV m] gh = some (I (checkE m), gh) := by
  unfold checkE
  have hNl : (m.nodes.map nodeV).length = m.nodes.length := by simp
  have hBl : (m.bads.map I).length = m.bads.length := by simp
  have hHl : (m.holds.map I).length = m.holds.length := by simp
  rw [modelV_def]
  by_cases c1 : m.nodes.length > 80 ∨ m.bads.length > 8 ∨ m.holds.length > 8
  · rw [if_pos c1]
    refine callL_fn (fn := f_model_Check) (s := ⟨[(2, I 2)], [], gh⟩) rfl rfl (D_model_Check_0_ok ?h1) ?r1
    case r1 => simp [finish, results, f_model_Check, resOfs, resOf, resOk]
    case h1 =>
      by_cases d1 : (80 : Int) < (m.nodes.length : Int)
      · simp [D_model_Check_0, d1]
      · by_cases d2 : (8 : Int) < (m.bads.length : Int)
        · simp [D_model_Check_0, d1, d2]
        · have d3 : (8 : Int) < (m.holds.length : Int) := by omega
          simp [D_model_Check_0, d1, d2, d3]
  · rw [if_neg c1]
    have d1 : ¬ (80 : Int) < (m.nodes.length : Int) := by omega
    have d2 : ¬ (8 : Int) < (m.bads.length : Int) := by omega
    have d3 : ¬ (8 : Int) < (m.holds.length : Int) := by omega
    have hl := MCheck_loop (m := m) (gh := gh) (by omega) m.nodes.length 0 (by omega)
    rw [List.drop_zero] at hl
    simp only [Int.natCast_zero] at hl
    by_cases hn : nodesE m.nodes 0 m.nodes = 0
    · rw [if_neg (fun h => h hn)]
      rw [if_pos hn] at hl
      have hb := Bits_eq (m := m) (gh := gh) (by omega)
      rw [modelV_def] at hb
      have hlen := lean_eq (m := m) (gh := gh) (ahead_of hn) (by omega)
      have hf : (hangF [] m.nodes).length = m.nodes.length := by simpa using hangF_len [] m.nodes
      have hp := pairs_eq (gh := gh) hf h1 h2
      have hm := marks_eq (m := m) (gh := gh) (f := hangF [] m.nodes) (by omega) (by omega) (by omega)
      have htk : (ckG gh m (hangF [] m.nodes)).take gh.length = gh := by simp [ckG]
      have hck : ckG gh m [] = gh ++ [GObj.cells [LN m.nodes, LP m.inits, LP m.nexts, LI m.bads, LI m.holds, .sl true 1 []]] := rfl
      generalize ckG gh m (hangF [] m.nodes) = g1 at *
      generalize pairsAll m (hangF [] m.nodes) = r at *
      rw [hck] at hlen
      by_cases hbt : bitsK m.nodes 2 > 6 ∨ bitsK m.nodes 3 > 10
      · rw [if_pos hbt]
        have k1 : runL pg f_model_Check_k1 ⟨[(1, .ptr false 0 0)], [[LN m.nodes, LP m.inits, LP m.nexts, LI m.bads, LI m.holds]], gh⟩ = some (.ret, ⟨[(2, I 2)], [], gh⟩) := by
          refine D_model_Check_k1_ok ?_
          by_cases b1 : 6 < bitsK m.nodes 2
          · simp [D_model_Check_k1, hb, b1]
          · have b2 : 10 < bitsK m.nodes 3 := by omega
            simp [D_model_Check_k1, hb, b1, b2]
        refine callL_fn (fn := f_model_Check) (s := ⟨[(2, I 2)], [], gh⟩) rfl rfl (D_model_Check_0_ok ?h2) ?r2
        case r2 => simp [finish, results, f_model_Check, resOfs, resOf, resOk]
        case h2 => simp [D_model_Check_0, d1, d2, d3, hl, k1]
      · rw [if_neg hbt]
        have b1 : ¬ 6 < bitsK m.nodes 2 := by omega
        have b2 : ¬ 10 < bitsK m.nodes 3 := by omega
        by_cases hr : r = 0
        · rw [if_neg (fun h => h hr)]
          have k1 : runL pg f_model_Check_k1 ⟨[(1, .ptr false 0 0)], [[LN m.nodes, LP m.inits, LP m.nexts, LI m.bads, LI m.holds]], gh⟩ = some (.ret, ⟨[(2, I (marksE m))], [], g1⟩) := by
            refine D_model_Check_k1_ok ?_
            simp [D_model_Check_k1, hb, b1, b2, hlen, hp, hr, hm]
          refine callL_fn (fn := f_model_Check) (s := ⟨[(2, I (marksE m))], [], g1⟩) rfl rfl (D_model_Check_0_ok ?h3) ?r3
          case r3 => simp [finish, results, f_model_Check, resOfs, resOf, resOk, htk]
          case h3 => simp [D_model_Check_0, d1, d2, d3, hl, k1]
        · rw [if_pos hr]
          have k1 : runL pg f_model_Check_k1 ⟨[(1, .ptr false 0 0)], [[LN m.nodes, LP m.inits, LP m.nexts, LI m.bads, LI m.holds]], gh⟩ = some (.ret, ⟨[(2, I r)], [], g1⟩) := by
            refine D_model_Check_k1_ok ?_
            simp [D_model_Check_k1, hb, b1, b2, hlen, hp, hr]
          refine callL_fn (fn := f_model_Check) (s := ⟨[(2, I r)], [], g1⟩) rfl rfl (D_model_Check_0_ok ?h4) ?r4
          case r4 => simp [finish, results, f_model_Check, resOfs, resOf, resOk, htk]
          case h4 => simp [D_model_Check_0, d1, d2, d3, hl, k1]
    · rw [if_pos hn]
      rw [if_neg hn] at hl
      generalize nodesE m.nodes 0 m.nodes = r at *
      refine callL_fn (fn := f_model_Check) (s := ⟨[(2, I r)], [], gh⟩) rfl rfl (D_model_Check_0_ok ?h5) ?r5
      case r5 => simp [finish, results, f_model_Check, resOfs, resOf, resOk]
      case h5 => simp [D_model_Check_0, d1, d2, d3, hl]
end
end Go.Lw
end

/-! What the code of function ref_Nodes comes to, piece by piece. Written by program (dprint.py). -/
section
set_option maxRecDepth 10000
set_option maxHeartbeats 4000000
namespace Go.Lw
open Go
noncomputable section
variable {pg : Prg} {gh : List GObj} {e : IExit} {s : St}
def an_ref_Nodes : Tr := (tI 13 (tI 7 (tO 4 (tI 1 (.node 0 (.agg [.any, .any, .any, .any, .any]) .nil .nil) .nil) (tI 6 (uO 5) .nil)) (tB 11 (tI 10 (uO 9) .nil) (uI 12))) (tO 22 (tI 19 (tI 16 (uO 15) .nil) (tB 21 (uI 20) .nil)) (tO 25 (tO 24 (uI 23) .nil) (uO 26))))
def D_ref_Nodes_k1 (pg : Prg) (x1 : Int) (v5 : PV) (x6 : Int) (vc0_0 vc0_1 : PV) (vc0_2 vc0_3 vc0_4 : PV) (gh : List GObj) : DR := stK 1 v5 (some (.normal, ⟨[(1, I x1), (2, .ptr false 0 0), (5, v5), (6, (I (IntKind.i64.wrap (x6 + 1))))], [[vc0_0, vc0_1, vc0_2, vc0_3, vc0_4]], gh⟩))
theorem D_ref_Nodes_k1_ok {x1 : Int} {v5 : PV} {x6 : Int} {vc0_0 vc0_1 : PV} {vc0_2 vc0_3 vc0_4 : PV} (h : D_ref_Nodes_k1 pg x1 v5 x6 vc0_0 vc0_1 vc0_2 vc0_3 vc0_4 gh = some (e, s)) : runL pg f_ref_Nodes_k1 ⟨[(1, I x1), (2, .ptr false 0 0), (5, v5), (6, I x6)], [[vc0_0, vc0_1, vc0_2, vc0_3, vc0_4]], gh⟩ = some (e, s) :=
  runX_ok an_ref_Nodes (Eq.trans (by kernel_rfl) h)
def D_ref_Nodes_b1 (pg : Prg) (x1 : Int) (v5 : PV) (x6 : Int) (vc0_0 vc0_1 : PV) (vc0_2 vc0_3 vc0_4 : PV) (gh : List GObj) : DR := isC (degr vc0_0) (lenS (degr (degr vc0_0)) fun n1 => stK 1 v5 (
  br 11 (decide (x6 < (n1 : Int))) (isC (degr vc0_0) (
  idX 6 none (degr (degr vc0_0)) x6 fun p2 => faX (degr p2) 0 fun p3 =>
  ldX [[vc0_0, vc0_1, vc0_2, vc0_3, vc0_4]] gh false 1 (degr p3) fun v4 => unI .i64 v4 fun n5 => stK 1 v5 (
  br 21 (n5 == x1) (
  apX 1 8 v5 (.sl false 1 [I x6]) fun l6 =>
  kR (runL pg f_ref_Nodes_k1 ⟨[(1, I x1), (2, .ptr false 0 0), (5, .sl true 1 l6), (6, I x6)], [[vc0_0, vc0_1, vc0_2, vc0_3, vc0_4]], gh⟩) (fun e s => po [1, 2, 5, 6] 1 e s (fun e s => some (e, s)))) (stK 1 v5 (
  kR (runL pg f_ref_Nodes_k1 ⟨[(1, I x1), (2, .ptr false 0 0), (5, v5), (6, I x6)], [[vc0_0, vc0_1, vc0_2, vc0_3, vc0_4]], gh⟩) (fun e s => po [1, 2, 5, 6] 1 e s (fun e s => some (e, s)))))))) (some ((.exit 0), ⟨[(1, I x1), (2, .ptr false 0 0), (5, v5), (6, I x6), (11, (B (decide (x6 < (n1 : Int)))))], [[vc0_0, vc0_1, vc0_2, vc0_3, vc0_4]], gh⟩))))
theorem D_ref_Nodes_b1_ok {x1 : Int} {v5 : PV} {x6 : Int} {vc0_0 vc0_1 : PV} {vc0_2 vc0_3 vc0_4 : PV} (h : D_ref_Nodes_b1 pg x1 v5 x6 vc0_0 vc0_1 vc0_2 vc0_3 vc0_4 gh = some (e, s)) : runL pg f_ref_Nodes_b1 ⟨[(1, I x1), (2, .ptr false 0 0), (5, v5), (6, I x6)], [[vc0_0, vc0_1, vc0_2, vc0_3, vc0_4]], gh⟩ = some (e, s) :=
  runX_ok an_ref_Nodes (Eq.trans (by kernel_rfl) h)
def D_ref_Nodes_k2 (pg : Prg) (v5 : PV) (gh : List GObj) : DR := isC (degr v5) (stK 0 (degr v5) (some (.ret, ⟨[(4, (degr v5))], [], gh⟩)))
theorem D_ref_Nodes_k2_ok {v5 : PV} (h : D_ref_Nodes_k2 pg v5 gh = some (e, s)) : runL pg f_ref_Nodes_k2 ⟨[(5, v5)], [], gh⟩ = some (e, s) :=
  runX_ok an_ref_Nodes (Eq.trans (by kernel_rfl) h)
def D_ref_Nodes_0 (pg : Prg) (v0_0 v0_1 : PV) (v0_2 v0_3 v0_4 : PV) (x1 : Int) (gh : List GObj) : DR := onK (degr1 v0_0) (onK (degr1 v0_1) (onK (degr1 v0_2) (onK (degr1 v0_3) (onK (degr1 v0_4) (
  kR (runL pg f_ref_Nodes_l1 ⟨[(1, I x1), (2, .ptr false 0 0), (5, .sl true 1 []), (6, I 0)], [[(degr1 v0_0), (degr1 v0_1), (degr1 v0_2), (degr1 v0_3), (degr1 v0_4)]], gh⟩) (fun e s => nx e s (fun e s => some (e, s)) fun s => kR (runL pg f_ref_Nodes_k2 s) (fun e s => some (e, s))))))))
theorem D_ref_Nodes_0_ok {v0_0 v0_1 : PV} {v0_2 v0_3 v0_4 : PV} {x1 : Int} (h : D_ref_Nodes_0 pg v0_0 v0_1 v0_2 v0_3 v0_4 x1 gh = some (e, s)) : runL pg f_ref_Nodes_0 ⟨[(0, .agg [v0_0, v0_1, v0_2, v0_3, v0_4]), (1, I x1)], [], gh⟩ = some (e, s) :=
  runX_ok an_ref_Nodes (Eq.trans (by kernel_rfl) h)
end
end Go.Lw
end

/-! What the code of function ref_Bits comes to, piece by piece. Written by program (dprint.py). -/
section
set_option maxRecDepth 10000
set_option maxHeartbeats 4000000
namespace Go.Lw
open Go
noncomputable section
variable {pg : Prg} {gh : List GObj} {e : IExit} {s : St}
def an_ref_Bits : Tr := (tO 15 (tI 7 (tI 4 (tI 1 (.node 0 (.agg [.any, .any, .any, .any, .any]) .nil .nil) .nil) (tI 6 (uI 5) .nil)) (tB 11 (tI 10 (uO 9) .nil) (tI 13 (uI 12) .nil))) (tO 24 (tI 20 (tI 19 (uI 16) .nil) (tI 22 (uB 21) .nil)) (tI 29 (tI 28 (uI 25) .nil) (uI 30))))
def D_ref_Bits_k1 (pg : Prg) (x1 x5 x6 : Int) (vc0_0 vc0_1 : PV) (vc0_2 vc0_3 vc0_4 : PV) (gh : List GObj) : DR := some (.normal, ⟨[(1, I x1), (2, .ptr false 0 0), (5, I x5), (6, (I (IntKind.i64.wrap (x6 + 1))))], [[vc0_0, vc0_1, vc0_2, vc0_3, vc0_4]], gh⟩)
theorem D_ref_Bits_k1_ok {x1 x5 x6 : Int} {vc0_0 vc0_1 : PV} {vc0_2 vc0_3 vc0_4 : PV} (h : D_ref_Bits_k1 pg x1 x5 x6 vc0_0 vc0_1 vc0_2 vc0_3 vc0_4 gh = some (e, s)) : runL pg f_ref_Bits_k1 ⟨[(1, I x1), (2, .ptr false 0 0), (5, I x5), (6, I x6)], [[vc0_0, vc0_1, vc0_2, vc0_3, vc0_4]], gh⟩ = some (e, s) :=
  runX_ok an_ref_Bits (Eq.trans (by kernel_rfl) h)
def D_ref_Bits_b1 (pg : Prg) (x1 x5 x6 : Int) (vc0_0 vc0_1 : PV) (vc0_2 vc0_3 vc0_4 : PV) (gh : List GObj) : DR := isC (degr vc0_0) (lenS (degr (degr vc0_0)) fun n1 =>
  br 11 (decide (x6 < (n1 : Int))) (isC (degr vc0_0) (
  idX 6 none (degr (degr vc0_0)) x6 fun p2 => faX (degr p2) 0 fun p3 =>
  ldX [[vc0_0, vc0_1, vc0_2, vc0_3, vc0_4]] gh false 1 (degr p3) fun v4 => unI .i64 v4 fun n5 =>
  br 21 (n5 == x1) (isC (degr vc0_0) (
  idX 6 none (degr (degr vc0_0)) x6 fun p6 => faX (degr p6) 1 fun p7 =>
  ldX [[vc0_0, vc0_1, vc0_2, vc0_3, vc0_4]] gh false 1 (degr p7) fun v8 => unI .i64 v8 fun n9 =>
  kR (runL pg f_ref_Bits_k1 ⟨[(1, I x1), (2, .ptr false 0 0), (5, (I (IntKind.i64.wrap (x5 + n9)))), (6, I x6)], [[vc0_0, vc0_1, vc0_2, vc0_3, vc0_4]], gh⟩) (fun e s => po [1, 2, 5, 6] 1 e s (fun e s => some (e, s))))) (
  kR (runL pg f_ref_Bits_k1 ⟨[(1, I x1), (2, .ptr false 0 0), (5, I x5), (6, I x6)], [[vc0_0, vc0_1, vc0_2, vc0_3, vc0_4]], gh⟩) (fun e s => po [1, 2, 5, 6] 1 e s (fun e s => some (e, s)))))) (some ((.exit 0), ⟨[(1, I x1), (2, .ptr false 0 0), (5, I x5), (6, I x6), (11, (B (decide (x6 < (n1 : Int)))))], [[vc0_0, vc0_1, vc0_2, vc0_3, vc0_4]], gh⟩)))
theorem D_ref_Bits_b1_ok {x1 x5 x6 : Int} {vc0_0 vc0_1 : PV} {vc0_2 vc0_3 vc0_4 : PV} (h : D_ref_Bits_b1 pg x1 x5 x6 vc0_0 vc0_1 vc0_2 vc0_3 vc0_4 gh = some (e, s)) : runL pg f_ref_Bits_b1 ⟨[(1, I x1), (2, .ptr false 0 0), (5, I x5), (6, I x6)], [[vc0_0, vc0_1, vc0_2, vc0_3, vc0_4]], gh⟩ = some (e, s) :=
  runX_ok an_ref_Bits (Eq.trans (by kernel_rfl) h)
def D_ref_Bits_k2 (pg : Prg) (x5 : Int) (gh : List GObj) : DR := some (.ret, ⟨[(4, I x5)], [], gh⟩)
theorem D_ref_Bits_k2_ok {x5 : Int} (h : D_ref_Bits_k2 pg x5 gh = some (e, s)) : runL pg f_ref_Bits_k2 ⟨[(5, I x5)], [], gh⟩ = some (e, s) :=
  runX_ok an_ref_Bits (Eq.trans (by kernel_rfl) h)
def D_ref_Bits_0 (pg : Prg) (v0_0 v0_1 : PV) (v0_2 v0_3 v0_4 : PV) (x1 : Int) (gh : List GObj) : DR := onK (degr1 v0_0) (onK (degr1 v0_1) (onK (degr1 v0_2) (onK (degr1 v0_3) (onK (degr1 v0_4) (
  kR (runL pg f_ref_Bits_l1 ⟨[(1, I x1), (2, .ptr false 0 0), (5, I 0), (6, I 0)], [[(degr1 v0_0), (degr1 v0_1), (degr1 v0_2), (degr1 v0_3), (degr1 v0_4)]], gh⟩) (fun e s => nx e s (fun e s => some (e, s)) fun s => kR (runL pg f_ref_Bits_k2 s) (fun e s => some (e, s))))))))
theorem D_ref_Bits_0_ok {v0_0 v0_1 : PV} {v0_2 v0_3 v0_4 : PV} {x1 : Int} (h : D_ref_Bits_0 pg v0_0 v0_1 v0_2 v0_3 v0_4 x1 gh = some (e, s)) : runL pg f_ref_Bits_0 ⟨[(0, .agg [v0_0, v0_1, v0_2, v0_3, v0_4]), (1, I x1)], [], gh⟩ = some (e, s) :=
  runX_ok an_ref_Bits (Eq.trans (by kernel_rfl) h)
end
end Go.Lw
end

/-! What the code of function ref_hangs comes to, piece by piece. Written by program (dprint.py). -/
section
set_option maxRecDepth 10000
set_option maxHeartbeats 4000000
namespace Go.Lw
open Go
noncomputable section
variable {pg : Prg} {gh : List GObj} {e : IExit} {s : St}
def an_ref_hangs : Tr := (tI 35 (.node 18 (.agg [.int .i64, .int .i64, .int .i64, .int .i64, .int .i64, .int .i64]) (tO 9 (tI 4 (tO 2 (.node 0 (.agg [.any, .any, .any, .any, .any]) .nil .nil) (uO 3)) (tI 7 (uB 6) .nil)) (tI 13 (tB 11 (uI 10) (uI 12)) (tI 16 (uO 15) .nil))) (tI 28 (tI 24 (tB 21 (uI 20) (uB 22)) (tB 26 (uB 25) .nil)) (tB 31 (tB 30 (uI 29) .nil) (tO 33 (uB 32) .nil)))) (tI 53 (tB 44 (tI 41 (tB 38 (uB 37) (uI 40)) (tB 43 (uB 42) .nil)) (tB 49 (tI 47 (uO 45) .nil) (tI 52 (uB 50) .nil))) (tB 62 (tO 57 (tB 55 (uB 54) (uB 56)) (tB 61 (uI 59) .nil)) (tO 65 (tB 64 (uO 63) .nil) (tO 67 (uO 66) .nil)))))
def D_ref_hangs_k3 (pg : Prg) (v3 : PV) (x4 : Int) (b6 : Bool) (vc0_0 vc0_1 : PV) (vc0_2 vc0_3 vc0_4 : PV) (gh : List GObj) : DR :=
  apX 1 1 v3 (.sl false 1 [B b6]) fun l1 => some (.normal, ⟨[(1, .ptr false 0 0), (3, .sl true 1 l1), (4, I x4)], [[vc0_0, vc0_1, vc0_2, vc0_3, vc0_4]], gh⟩)
theorem D_ref_hangs_k3_ok {v3 : PV} {x4 : Int} {b6 : Bool} {vc0_0 vc0_1 : PV} {vc0_2 vc0_3 vc0_4 : PV} (h : D_ref_hangs_k3 pg v3 x4 b6 vc0_0 vc0_1 vc0_2 vc0_3 vc0_4 gh = some (e, s)) : runL pg f_ref_hangs_k3 ⟨[(1, .ptr false 0 0), (3, v3), (4, I x4), (6, B b6)], [[vc0_0, vc0_1, vc0_2, vc0_3, vc0_4]], gh⟩ = some (e, s) :=
  runX_ok an_ref_hangs (Eq.trans (by kernel_rfl) h)
def D_ref_hangs_k2 (pg : Prg) (v3 : PV) (x4 : Int) (b6 : Bool) (vc0_0 vc0_1 : PV) (vc0_2 vc0_3 vc0_4 : PV) (xc1_0 xc1_1 : Int) (xc1_2 xc1_3 : Int) (xc1_4 xc1_5 : Int) (gh : List GObj) : DR :=
  callR gh true (callL pg 26 [I xc1_0] gh) fun r1 gh2 => unI .i64 r1 fun n3 => stK 2 v3 (
  br 54 (decide (2 < n3)) (
  br 56 b6 (stK 1 v3 (stK 1 v3 (
  kR (runL pg f_ref_hangs_k3 ⟨[(1, .ptr false 0 0), (3, v3), (4, I x4), (6, B true)], [[vc0_0, vc0_1, vc0_2, vc0_3, vc0_4]], gh2⟩) (fun e s => some (e, s))))) (isC (degr v3) (
  idX 1 none (degr (degr v3)) xc1_4 fun p4 =>
  ldX [[vc0_0, vc0_1, vc0_2, vc0_3, vc0_4], [I xc1_0, I xc1_1, I xc1_2, I xc1_3, I xc1_4, I xc1_5]] gh2 false 1 (degr p4) fun v5 => unB v5 fun b7 => stK 1 v3 (stK 1 v3 (
  kR (runL pg f_ref_hangs_k3 ⟨[(1, .ptr false 0 0), (3, v3), (4, I x4), (6, B b7)], [[vc0_0, vc0_1, vc0_2, vc0_3, vc0_4]], gh2⟩) (fun e s => some (e, s))))))) (stK 1 v3 (
  kR (runL pg f_ref_hangs_k3 ⟨[(1, .ptr false 0 0), (3, v3), (4, I x4), (6, B b6)], [[vc0_0, vc0_1, vc0_2, vc0_3, vc0_4]], gh2⟩) (fun e s => some (e, s)))))
theorem D_ref_hangs_k2_ok {v3 : PV} {x4 : Int} {b6 : Bool} {vc0_0 vc0_1 : PV} {vc0_2 vc0_3 vc0_4 : PV} {xc1_0 xc1_1 : Int} {xc1_2 xc1_3 : Int} {xc1_4 xc1_5 : Int} (h : D_ref_hangs_k2 pg v3 x4 b6 vc0_0 vc0_1 vc0_2 vc0_3 vc0_4 xc1_0 xc1_1 xc1_2 xc1_3 xc1_4 xc1_5 gh = some (e, s)) : runL pg f_ref_hangs_k2 ⟨[(1, .ptr false 0 0), (3, v3), (4, I x4), (5, .ptr false 1 0), (6, B b6)], [[vc0_0, vc0_1, vc0_2, vc0_3, vc0_4], [I xc1_0, I xc1_1, I xc1_2, I xc1_3, I xc1_4, I xc1_5]], gh⟩ = some (e, s) :=
  runX_ok an_ref_hangs (Eq.trans (by kernel_rfl) h)
def D_ref_hangs_k1 (pg : Prg) (v3 : PV) (x4 : Int) (b6 : Bool) (vc0_0 vc0_1 : PV) (vc0_2 vc0_3 vc0_4 : PV) (xc1_0 xc1_1 : Int) (xc1_2 xc1_3 : Int) (xc1_4 xc1_5 : Int) (gh : List GObj) : DR :=
  callR gh true (callL pg 26 [I xc1_0] gh) fun r1 gh2 => unI .i64 r1 fun n3 => stK 2 v3 (
  br 42 (decide (1 < n3)) (
  br 44 b6 (stK 2 v3 (stK 2 v3 (
  kR (runL pg f_ref_hangs_k2 ⟨[(1, .ptr false 0 0), (3, v3), (4, I x4), (5, .ptr false 1 0), (6, B true)], [[vc0_0, vc0_1, vc0_2, vc0_3, vc0_4], [I xc1_0, I xc1_1, I xc1_2, I xc1_3, I xc1_4, I xc1_5]], gh2⟩) (fun e s => some (e, s))))) (isC (degr v3) (
  idX 1 none (degr (degr v3)) xc1_3 fun p4 =>
  ldX [[vc0_0, vc0_1, vc0_2, vc0_3, vc0_4], [I xc1_0, I xc1_1, I xc1_2, I xc1_3, I xc1_4, I xc1_5]] gh2 false 1 (degr p4) fun v5 => unB v5 fun b7 => stK 2 v3 (stK 2 v3 (
  kR (runL pg f_ref_hangs_k2 ⟨[(1, .ptr false 0 0), (3, v3), (4, I x4), (5, .ptr false 1 0), (6, B b7)], [[vc0_0, vc0_1, vc0_2, vc0_3, vc0_4], [I xc1_0, I xc1_1, I xc1_2, I xc1_3, I xc1_4, I xc1_5]], gh2⟩) (fun e s => some (e, s))))))) (stK 2 v3 (
  kR (runL pg f_ref_hangs_k2 ⟨[(1, .ptr false 0 0), (3, v3), (4, I x4), (5, .ptr false 1 0), (6, B b6)], [[vc0_0, vc0_1, vc0_2, vc0_3, vc0_4], [I xc1_0, I xc1_1, I xc1_2, I xc1_3, I xc1_4, I xc1_5]], gh2⟩) (fun e s => some (e, s)))))
theorem D_ref_hangs_k1_ok {v3 : PV} {x4 : Int} {b6 : Bool} {vc0_0 vc0_1 : PV} {vc0_2 vc0_3 vc0_4 : PV} {xc1_0 xc1_1 : Int} {xc1_2 xc1_3 : Int} {xc1_4 xc1_5 : Int} (h : D_ref_hangs_k1 pg v3 x4 b6 vc0_0 vc0_1 vc0_2 vc0_3 vc0_4 xc1_0 xc1_1 xc1_2 xc1_3 xc1_4 xc1_5 gh = some (e, s)) : runL pg f_ref_hangs_k1 ⟨[(1, .ptr false 0 0), (3, v3), (4, I x4), (5, .ptr false 1 0), (6, B b6)], [[vc0_0, vc0_1, vc0_2, vc0_3, vc0_4], [I xc1_0, I xc1_1, I xc1_2, I xc1_3, I xc1_4, I xc1_5]], gh⟩ = some (e, s) :=
  runX_ok an_ref_hangs (Eq.trans (by kernel_rfl) h)
def D_ref_hangs_k4 (pg : Prg) (v3 : PV) (x4 : Int) (vc0_0 vc0_1 : PV) (vc0_2 vc0_3 vc0_4 : PV) (gh : List GObj) : DR := stK 1 v3 (some (.normal, ⟨[(1, .ptr false 0 0), (3, v3), (4, (I (IntKind.i64.wrap (x4 + 1))))], [[vc0_0, vc0_1, vc0_2, vc0_3, vc0_4]], gh⟩))
theorem D_ref_hangs_k4_ok {v3 : PV} {x4 : Int} {vc0_0 vc0_1 : PV} {vc0_2 vc0_3 vc0_4 : PV} (h : D_ref_hangs_k4 pg v3 x4 vc0_0 vc0_1 vc0_2 vc0_3 vc0_4 gh = some (e, s)) : runL pg f_ref_hangs_k4 ⟨[(1, .ptr false 0 0), (3, v3), (4, I x4)], [[vc0_0, vc0_1, vc0_2, vc0_3, vc0_4]], gh⟩ = some (e, s) :=
  runX_ok an_ref_hangs (Eq.trans (by kernel_rfl) h)
def D_ref_hangs_b1 (pg : Prg) (v3 : PV) (x4 : Int) (vc0_0 vc0_1 : PV) (vc0_2 vc0_3 vc0_4 : PV) (gh : List GObj) : DR := isC (degr vc0_0) (lenS (degr (degr vc0_0)) fun n1 => stK 1 v3 (
  br 11 (decide (x4 < (n1 : Int))) (isC (degr vc0_0) (
  idX 6 none (degr (degr vc0_0)) x4 fun p2 =>
  ldX [[vc0_0, vc0_1, vc0_2, vc0_3, vc0_4]] gh true 6 (degr p2) fun v4 => unA 6 v4 fun c5 c6 c7 c8 c9 c10 => unI .i64 c5 fun n11 => unI .i64 c6 fun n12 => unI .i64 c7 fun n13 => unI .i64 c8 fun n14 => unI .i64 c9 fun n15 => unI .i64 c10 fun n16 => stK 2 v3 (
  br 22 (n11 == 2) (stK 2 v3 (
  callR gh true (callL pg 26 [I n11] gh) fun r17 gh18 => unI .i64 r17 fun n19 => stK 2 v3 (
  br 30 (decide (0 < n19)) (stK 2 v3 (stK 2 v3 (
  kR (runL pg f_ref_hangs_k1 ⟨[(1, .ptr false 0 0), (3, v3), (4, I x4), (5, .ptr false 1 0), (6, B true)], [[vc0_0, vc0_1, vc0_2, vc0_3, vc0_4], [I n11, I n12, I n13, I n14, I n15, I n16]], gh18⟩) (fun e s => bk 1 e s (fun e s => nx e s (fun e s => po [1, 3, 4] 1 e s (fun e s => some (e, s))) fun s => kR (runL pg f_ref_hangs_k4 s) (fun e s => po [1, 3, 4] 1 e s (fun e s => some (e, s)))))))) (stK 2 v3 (
  kR (runL pg f_ref_hangs_k1 ⟨[(1, .ptr false 0 0), (3, v3), (4, I x4), (5, .ptr false 1 0), (6, B true)], [[vc0_0, vc0_1, vc0_2, vc0_3, vc0_4], [I n11, I n12, I n13, I n14, I n15, I n16]], gh18⟩) (fun e s => bk 1 e s (fun e s => nx e s (fun e s => po [1, 3, 4] 1 e s (fun e s => some (e, s))) fun s => kR (runL pg f_ref_hangs_k4 s) (fun e s => po [1, 3, 4] 1 e s (fun e s => some (e, s)))))))))) (stK 2 v3 (
  callR gh true (callL pg 26 [I n11] gh) fun r20 gh21 => unI .i64 r20 fun n22 => stK 2 v3 (
  br 30 (decide (0 < n22)) (
  br 32 (n11 == 3) (stK 2 v3 (stK 2 v3 (
  kR (runL pg f_ref_hangs_k1 ⟨[(1, .ptr false 0 0), (3, v3), (4, I x4), (5, .ptr false 1 0), (6, B true)], [[vc0_0, vc0_1, vc0_2, vc0_3, vc0_4], [I n11, I n12, I n13, I n14, I n15, I n16]], gh21⟩) (fun e s => bk 1 e s (fun e s => nx e s (fun e s => po [1, 3, 4] 1 e s (fun e s => some (e, s))) fun s => kR (runL pg f_ref_hangs_k4 s) (fun e s => po [1, 3, 4] 1 e s (fun e s => some (e, s)))))))) (isC (degr v3) (
  idX 1 none (degr (degr v3)) n13 fun p23 =>
  ldX [[vc0_0, vc0_1, vc0_2, vc0_3, vc0_4], [I n11, I n12, I n13, I n14, I n15, I n16]] gh21 false 1 (degr p23) fun v24 => unB v24 fun b25 => stK 2 v3 (stK 2 v3 (
  kR (runL pg f_ref_hangs_k1 ⟨[(1, .ptr false 0 0), (3, v3), (4, I x4), (5, .ptr false 1 0), (6, B b25)], [[vc0_0, vc0_1, vc0_2, vc0_3, vc0_4], [I n11, I n12, I n13, I n14, I n15, I n16]], gh21⟩) (fun e s => bk 1 e s (fun e s => nx e s (fun e s => po [1, 3, 4] 1 e s (fun e s => some (e, s))) fun s => kR (runL pg f_ref_hangs_k4 s) (fun e s => po [1, 3, 4] 1 e s (fun e s => some (e, s)))))))))) (stK 2 v3 (
  kR (runL pg f_ref_hangs_k1 ⟨[(1, .ptr false 0 0), (3, v3), (4, I x4), (5, .ptr false 1 0), (6, (B (n11 == 3)))], [[vc0_0, vc0_1, vc0_2, vc0_3, vc0_4], [I n11, I n12, I n13, I n14, I n15, I n16]], gh21⟩) (fun e s => bk 1 e s (fun e s => nx e s (fun e s => po [1, 3, 4] 1 e s (fun e s => some (e, s))) fun s => kR (runL pg f_ref_hangs_k4 s) (fun e s => po [1, 3, 4] 1 e s (fun e s => some (e, s))))))))))))) (some ((.exit 0), ⟨[(1, .ptr false 0 0), (3, v3), (4, I x4), (11, (B (decide (x4 < (n1 : Int)))))], [[vc0_0, vc0_1, vc0_2, vc0_3, vc0_4]], gh⟩))))
theorem D_ref_hangs_b1_ok {v3 : PV} {x4 : Int} {vc0_0 vc0_1 : PV} {vc0_2 vc0_3 vc0_4 : PV} (h : D_ref_hangs_b1 pg v3 x4 vc0_0 vc0_1 vc0_2 vc0_3 vc0_4 gh = some (e, s)) : runL pg f_ref_hangs_b1 ⟨[(1, .ptr false 0 0), (3, v3), (4, I x4)], [[vc0_0, vc0_1, vc0_2, vc0_3, vc0_4]], gh⟩ = some (e, s) :=
  runX_ok an_ref_hangs (Eq.trans (by kernel_rfl) h)
def D_ref_hangs_k5 (pg : Prg) (v3 : PV) (gh : List GObj) : DR := isC (degr v3) (stK 0 (degr v3) (some (.ret, ⟨[(2, (degr v3))], [], gh⟩)))
theorem D_ref_hangs_k5_ok {v3 : PV} (h : D_ref_hangs_k5 pg v3 gh = some (e, s)) : runL pg f_ref_hangs_k5 ⟨[(3, v3)], [], gh⟩ = some (e, s) :=
  runX_ok an_ref_hangs (Eq.trans (by kernel_rfl) h)
def D_ref_hangs_0 (pg : Prg) (v0_0 v0_1 : PV) (v0_2 v0_3 v0_4 : PV) (gh : List GObj) : DR := onK (degr1 v0_0) (onK (degr1 v0_1) (onK (degr1 v0_2) (onK (degr1 v0_3) (onK (degr1 v0_4) (
  kR (runL pg f_ref_hangs_l1 ⟨[(1, .ptr false 0 0), (3, .sl true 1 []), (4, I 0)], [[(degr1 v0_0), (degr1 v0_1), (degr1 v0_2), (degr1 v0_3), (degr1 v0_4)]], gh⟩) (fun e s => nx e s (fun e s => some (e, s)) fun s => kR (runL pg f_ref_hangs_k5 s) (fun e s => some (e, s))))))))
theorem D_ref_hangs_0_ok {v0_0 v0_1 : PV} {v0_2 v0_3 v0_4 : PV} (h : D_ref_hangs_0 pg v0_0 v0_1 v0_2 v0_3 v0_4 gh = some (e, s)) : runL pg f_ref_hangs_0 ⟨[(0, .agg [v0_0, v0_1, v0_2, v0_3, v0_4])], [], gh⟩ = some (e, s) :=
  runX_ok an_ref_hangs (Eq.trans (by kernel_rfl) h)
end
end Go.Lw
end

/-! What the code of function ref_CheckModel comes to, piece by piece. Written by program (dprint.py). -/
section
set_option maxRecDepth 10000
set_option maxHeartbeats 4000000
namespace Go.Lw
open Go
noncomputable section
variable {pg : Prg} {gh : List GObj} {e : IExit} {s : St}
def an_ref_CheckModel : Tr := (tO 97 (tI 48 (tI 24 (tI 12 (tI 6 (tI 3 (tI 2 (.node 0 (.agg [.any, .any, .any, .any, .any]) .nil .nil) .nil) (tO 5 (uI 4) .nil)) (tI 10 (tI 8 (uO 7) .nil) (uO 11))) (tO 18 (tI 15 (tO 14 (uI 13) .nil) (uI 16)) (tB 21 (tB 20 (uI 19) .nil) (uO 23)))) (tB 37 (tB 31 (tB 27 (tB 26 (uB 25) .nil) (tI 30 (uO 29) .nil)) (tO 35 (tI 33 (uB 32) .nil) (uI 36))) (tI 43 (tO 41 (tI 39 (uI 38) .nil) (uI 42)) (tI 46 (tB 45 (uI 44) .nil) (.node 47 (.agg [.any, .any, .any, .any, .any]) .nil .nil))))) (tI 71 (tI 59 (tB 54 (.node 51 (.agg [.any, .any, .any, .any, .any]) (tB 50 (uB 49) .nil) (tB 53 (uI 52) .nil)) (tI 57 (tO 56 (.node 55 (.agg [.any, .any, .any, .any, .any]) .nil .nil) .nil) (uB 58))) (tO 66 (tI 63 (tO 62 (uI 60) .nil) (uB 64)) (tI 69 (tO 68 (uI 67) .nil) (uB 70)))) (tB 84 (tI 78 (tI 74 (tO 73 (uI 72) .nil) (.node 76 (.agg [.int .i64, .int .i64]) .nil .nil)) (tI 82 (tI 81 (uO 80) .nil) (uB 83))) (tI 91 (tO 89 (tI 87 (uB 85) .nil) (uI 90)) (tB 94 (tB 93 (uB 92) .nil) (uB 95)))))) (tO 155 (tI 131 (tB 119 (tI 108 (tB 103 (tI 102 (uI 99) .nil) (tO 106 (uB 104) .nil)) (tI 115 (tO 113 (uI 111) .nil) (uI 118))) (tI 125 (tB 122 (tB 121 (uI 120) .nil) (uO 123)) (tI 129 (tB 128 (uB 127) .nil) (uB 130)))) (tI 143 (tO 138 (tI 135 (tO 134 (uI 132) .nil) (uB 136)) (tI 141 (tO 140 (uI 139) .nil) (uB 142))) (tI 148 (tI 146 (tI 145 (uI 144) .nil) (uB 147)) (tI 151 (tO 150 (uI 149) .nil) (uI 154))))) (tO 181 (tO 170 (.node 164 (.agg [.any, .any, .any, .any, .any]) (tB 160 (tI 159 (uI 156) .nil) (tI 163 (uO 162) .nil)) (tB 167 (tI 166 (uO 165) .nil) (uO 168))) (tO 176 (tO 174 (tO 173 (uO 171) .nil) (uI 175)) (tI 179 (tB 178 (uI 177) .nil) (uI 180)))) (tI 193 (tI 188 (tO 186 (tI 184 (uI 182) .nil) (uI 187)) (tI 191 (tB 190 (uB 189) .nil) (uO 192))) (tO 199 (tI 196 (tI 195 (uB 194) .nil) (uO 198)) (tI 205 (tI 202 (uI 200) .nil) (uB 206)))))))
def D_ref_CheckModel_b1 (pg : Prg) (x3 : Int) (vc0_0 vc0_1 : PV) (vc0_2 vc0_3 vc0_4 : PV) (gh : List GObj) : DR := isC (degr vc0_0) (lenS (degr (degr vc0_0)) fun n1 =>
  br 37 (decide (x3 < (n1 : Int))) (isC (degr vc0_0) (arK (degr (degr vc0_0)) (
  callR gh true (callL pg 72 [(degr (degr vc0_0)), I x3] gh) fun r2 gh3 => unI .i64 r2 fun n4 =>
  br 45 (n4 != 0) (some (.ret, ⟨[(2, I n4)], [], gh3⟩)) (some (.normal, ⟨[(1, .ptr false 0 0), (3, (I (IntKind.i64.wrap (x3 + 1))))], [[vc0_0, vc0_1, vc0_2, vc0_3, vc0_4]], gh3⟩))))) (some ((.exit 0), ⟨[(1, .ptr false 0 0), (3, I x3), (37, (B (decide (x3 < (n1 : Int)))))], [[vc0_0, vc0_1, vc0_2, vc0_3, vc0_4]], gh⟩)))
theorem D_ref_CheckModel_b1_ok {x3 : Int} {vc0_0 vc0_1 : PV} {vc0_2 vc0_3 vc0_4 : PV} (h : D_ref_CheckModel_b1 pg x3 vc0_0 vc0_1 vc0_2 vc0_3 vc0_4 gh = some (e, s)) : runL pg f_ref_CheckModel_b1 ⟨[(1, .ptr false 0 0), (3, I x3)], [[vc0_0, vc0_1, vc0_2, vc0_3, vc0_4]], gh⟩ = some (e, s) :=
  runX_ok an_ref_CheckModel (Eq.trans (by kernel_rfl) h)
def D_ref_CheckModel_b3 (pg : Prg) (v5 : PV) (x6 : Int) (v7 : PV) (x8 : Int) (vc0_0 vc0_1 : PV) (vc0_2 vc0_3 vc0_4 : PV) (gh : List GObj) : DR := isC (degr v7) (lenS (degr (degr v7)) fun n1 => stK 1 v5 (stK 1 v7 (
  br 70 (decide (x8 < (n1 : Int))) (isC (degr v7) (
  idX 2 none (degr (degr v7)) x8 fun p2 =>
  ldX [[vc0_0, vc0_1, vc0_2, vc0_3, vc0_4]] gh true 2 (degr p2) fun v3 => unA 2 v3 fun c4 c5 => unI .i64 c4 fun n6 => unI .i64 c5 fun n7 => stK 2 v5 (stK 2 v7 (isC (degr vc0_0) (lenS (degr (degr vc0_0)) fun n8 =>
  callR gh true (callL pg 50 [I n6, I 0, (I (IntKind.i64.wrap ((n8 : Int) - 1)))] gh) fun r9 gh10 => unB r9 fun b11 =>
  br 85 (!b11) (stK 2 v5 (stK 2 v7 (some (.ret, ⟨[(2, I 5)], [], gh10⟩)))) (isC (degr vc0_0) (lenS (degr (degr vc0_0)) fun n12 =>
  callR gh10 true (callL pg 50 [I n7, I 0, (I (IntKind.i64.wrap ((n12 : Int) - 1)))] gh10) fun r13 gh14 => unB r13 fun b15 =>
  br 95 (!b15) (stK 2 v5 (stK 2 v7 (some (.ret, ⟨[(2, I 5)], [], gh14⟩)))) (isC (degr vc0_0) (
  idX 6 none (degr (degr vc0_0)) n6 fun p16 => faX (degr p16) 0 fun p17 =>
  ldX [[vc0_0, vc0_1, vc0_2, vc0_3, vc0_4], [I n6, I n7]] gh14 false 1 (degr p17) fun v18 => unI .i64 v18 fun n19 => stK 2 v5 (stK 2 v7 (
  br 104 (n19 != 3) (some (.ret, ⟨[(2, I 5)], [], gh14⟩)) (isC (degr vc0_0) (
  idX 6 none (degr (degr vc0_0)) n6 fun p20 => faX (degr p20) 1 fun p21 =>
  ldX [[vc0_0, vc0_1, vc0_2, vc0_3, vc0_4], [I n6, I n7]] gh14 false 1 (degr p21) fun v22 => unI .i64 v22 fun n23 => isC (degr vc0_0) (
  idX 6 none (degr (degr vc0_0)) n7 fun p24 => faX (degr p24) 1 fun p25 =>
  ldX [[vc0_0, vc0_1, vc0_2, vc0_3, vc0_4], [I n6, I n7]] gh14 false 1 (degr p25) fun v26 => unI .i64 v26 fun n27 => stK 2 v5 (stK 2 v7 (
  br 119 (n23 != n27) (some (.ret, ⟨[(2, I 1)], [], gh14⟩)) (
  br 122 (x6 == 0) (isC (degr v5) (
  idX 1 none (degr (degr v5)) n7 fun p28 =>
  ldX [[vc0_0, vc0_1, vc0_2, vc0_3, vc0_4], [I n6, I n7]] gh14 false 1 (degr p28) fun v29 => unB v29 fun b30 => stK 1 v5 (stK 1 v7 (
  br 128 b30 (some (.ret, ⟨[(2, I 4)], [], gh14⟩)) (stK 1 v5 (stK 1 v7 (stK 1 v5 (stK 1 v7 (some (.normal, ⟨[(1, .ptr false 0 0), (5, v5), (6, I x6), (7, v7), (8, (I (IntKind.i64.wrap (x8 + 1))))], [[vc0_0, vc0_1, vc0_2, vc0_3, vc0_4]], gh14⟩)))))))))) (stK 1 v5 (stK 1 v7 (stK 1 v5 (stK 1 v7 (stK 1 v5 (stK 1 v7 (some (.normal, ⟨[(1, .ptr false 0 0), (5, v5), (6, I x6), (7, v7), (8, (I (IntKind.i64.wrap (x8 + 1))))], [[vc0_0, vc0_1, vc0_2, vc0_3, vc0_4]], gh14⟩))))))))))))))))))))))))) (some ((.exit 4), ⟨[(1, .ptr false 0 0), (5, v5), (6, I x6), (7, v7), (8, I x8), (70, (B (decide (x8 < (n1 : Int)))))], [[vc0_0, vc0_1, vc0_2, vc0_3, vc0_4]], gh⟩)))))
theorem D_ref_CheckModel_b3_ok {v5 : PV} {x6 : Int} {v7 : PV} {x8 : Int} {vc0_0 vc0_1 : PV} {vc0_2 vc0_3 vc0_4 : PV} (h : D_ref_CheckModel_b3 pg v5 x6 v7 x8 vc0_0 vc0_1 vc0_2 vc0_3 vc0_4 gh = some (e, s)) : runL pg f_ref_CheckModel_b3 ⟨[(1, .ptr false 0 0), (5, v5), (6, I x6), (7, v7), (8, I x8)], [[vc0_0, vc0_1, vc0_2, vc0_3, vc0_4]], gh⟩ = some (e, s) :=
  runX_ok an_ref_CheckModel (Eq.trans (by kernel_rfl) h)
def D_ref_CheckModel_k2 (pg : Prg) (v5 : PV) (x6 : Int) (v7 vc0_0 : PV) (vc0_1 vc0_2 : PV) (vc0_3 vc0_4 : PV) (gh : List GObj) : DR := stK 1 v5 (stK 1 v7 (
  kR (runL pg f_ref_CheckModel_l3 ⟨[(1, .ptr false 0 0), (5, v5), (6, I x6), (7, v7), (8, I 0)], [[vc0_0, vc0_1, vc0_2, vc0_3, vc0_4]], gh⟩) (fun e s => some (e, s))))
theorem D_ref_CheckModel_k2_ok {v5 : PV} {x6 : Int} {v7 vc0_0 : PV} {vc0_1 vc0_2 : PV} {vc0_3 vc0_4 : PV} (h : D_ref_CheckModel_k2 pg v5 x6 v7 vc0_0 vc0_1 vc0_2 vc0_3 vc0_4 gh = some (e, s)) : runL pg f_ref_CheckModel_k2 ⟨[(1, .ptr false 0 0), (5, v5), (6, I x6), (7, v7)], [[vc0_0, vc0_1, vc0_2, vc0_3, vc0_4]], gh⟩ = some (e, s) :=
  runX_ok an_ref_CheckModel (Eq.trans (by kernel_rfl) h)
def D_ref_CheckModel_k3 (pg : Prg) (v5 : PV) (x6 : Int) (vc0_0 vc0_1 : PV) (vc0_2 vc0_3 vc0_4 : PV) (gh : List GObj) : DR := stK 1 v5 (some (.normal, ⟨[(1, .ptr false 0 0), (5, v5), (6, (I (IntKind.i64.wrap (x6 + 1))))], [[vc0_0, vc0_1, vc0_2, vc0_3, vc0_4]], gh⟩))
theorem D_ref_CheckModel_k3_ok {v5 : PV} {x6 : Int} {vc0_0 vc0_1 : PV} {vc0_2 vc0_3 vc0_4 : PV} (h : D_ref_CheckModel_k3 pg v5 x6 vc0_0 vc0_1 vc0_2 vc0_3 vc0_4 gh = some (e, s)) : runL pg f_ref_CheckModel_k3 ⟨[(1, .ptr false 0 0), (5, v5), (6, I x6)], [[vc0_0, vc0_1, vc0_2, vc0_3, vc0_4]], gh⟩ = some (e, s) :=
  runX_ok an_ref_CheckModel (Eq.trans (by kernel_rfl) h)
def D_ref_CheckModel_b2 (pg : Prg) (v5 : PV) (x6 : Int) (vc0_0 vc0_1 : PV) (vc0_2 vc0_3 vc0_4 : PV) (gh : List GObj) : DR := stK 1 v5 (
  br 58 (decide (x6 < 2)) (isC (degr vc0_1) (stK 1 v5 (stK 1 (degr vc0_1) (stK 1 v5 (stK 1 (degr vc0_1) (
  br 64 (x6 == 1) (isC (degr vc0_2) (stK 1 v5 (stK 1 (degr vc0_2) (stK 1 v5 (stK 1 (degr vc0_2) (
  kR (runL pg f_ref_CheckModel_k2 ⟨[(1, .ptr false 0 0), (5, v5), (6, I x6), (7, (degr vc0_2))], [[vc0_0, vc0_1, vc0_2, vc0_3, vc0_4]], gh⟩) (fun e s => bk 3 e s (fun e s => nx e s (fun e s => po [1, 5, 6] 1 e s (fun e s => some (e, s))) fun s => kR (runL pg f_ref_CheckModel_k3 s) (fun e s => po [1, 5, 6] 1 e s (fun e s => some (e, s))))))))))) (stK 1 v5 (stK 1 (degr vc0_1) (
  kR (runL pg f_ref_CheckModel_k2 ⟨[(1, .ptr false 0 0), (5, v5), (6, I x6), (7, (degr vc0_1))], [[vc0_0, vc0_1, vc0_2, vc0_3, vc0_4]], gh⟩) (fun e s => bk 3 e s (fun e s => nx e s (fun e s => po [1, 5, 6] 1 e s (fun e s => some (e, s))) fun s => kR (runL pg f_ref_CheckModel_k3 s) (fun e s => po [1, 5, 6] 1 e s (fun e s => some (e, s)))))))))))))) (some ((.exit 2), ⟨[(1, .ptr false 0 0), (5, v5), (6, I x6), (58, (B (decide (x6 < 2))))], [[vc0_0, vc0_1, vc0_2, vc0_3, vc0_4]], gh⟩)))
theorem D_ref_CheckModel_b2_ok {v5 : PV} {x6 : Int} {vc0_0 vc0_1 : PV} {vc0_2 vc0_3 vc0_4 : PV} (h : D_ref_CheckModel_b2 pg v5 x6 vc0_0 vc0_1 vc0_2 vc0_3 vc0_4 gh = some (e, s)) : runL pg f_ref_CheckModel_b2 ⟨[(1, .ptr false 0 0), (5, v5), (6, I x6)], [[vc0_0, vc0_1, vc0_2, vc0_3, vc0_4]], gh⟩ = some (e, s) :=
  runX_ok an_ref_CheckModel (Eq.trans (by kernel_rfl) h)
def D_ref_CheckModel_b6 (pg : Prg) (x10 : Int) (v11 : PV) (x12 x13 : Int) (vc0_0 vc0_1 : PV) (vc0_2 vc0_3 vc0_4 : PV) (gh : List GObj) : DR := stK 1 v11 (
  br 147 (decide (x13 < x12)) (isC (degr v11) (
  idX 2 none (degr (degr v11)) x12 fun p1 => faX (degr p1) 0 fun p2 =>
  ldX [[vc0_0, vc0_1, vc0_2, vc0_3, vc0_4]] gh false 1 (degr p2) fun v3 => unI .i64 v3 fun n4 => isC (degr v11) (
  idX 2 none (degr (degr v11)) x13 fun p5 => faX (degr p5) 0 fun p6 =>
  ldX [[vc0_0, vc0_1, vc0_2, vc0_3, vc0_4]] gh false 1 (degr p6) fun v7 => unI .i64 v7 fun n8 => stK 1 v11 (
  br 160 (n4 == n8) (some (.ret, ⟨[(2, I 6)], [], gh⟩)) (stK 1 v11 (stK 1 v11 (some (.normal, ⟨[(1, .ptr false 0 0), (10, I x10), (11, v11), (12, I x12), (13, (I (IntKind.i64.wrap (x13 + 1))))], [[vc0_0, vc0_1, vc0_2, vc0_3, vc0_4]], gh⟩)))))))) (some ((.exit 10), ⟨[(1, .ptr false 0 0), (10, I x10), (11, v11), (12, I x12), (13, I x13), (147, (B (decide (x13 < x12))))], [[vc0_0, vc0_1, vc0_2, vc0_3, vc0_4]], gh⟩)))
theorem D_ref_CheckModel_b6_ok {x10 : Int} {v11 : PV} {x12 x13 : Int} {vc0_0 vc0_1 : PV} {vc0_2 vc0_3 vc0_4 : PV} (h : D_ref_CheckModel_b6 pg x10 v11 x12 x13 vc0_0 vc0_1 vc0_2 vc0_3 vc0_4 gh = some (e, s)) : runL pg f_ref_CheckModel_b6 ⟨[(1, .ptr false 0 0), (10, I x10), (11, v11), (12, I x12), (13, I x13)], [[vc0_0, vc0_1, vc0_2, vc0_3, vc0_4]], gh⟩ = some (e, s) :=
  runX_ok an_ref_CheckModel (Eq.trans (by kernel_rfl) h)
def D_ref_CheckModel_k6 (pg : Prg) (x10 : Int) (v11 : PV) (x12 : Int) (vc0_0 vc0_1 : PV) (vc0_2 vc0_3 vc0_4 : PV) (gh : List GObj) : DR := stK 1 v11 (some (.normal, ⟨[(1, .ptr false 0 0), (10, I x10), (11, v11), (12, (I (IntKind.i64.wrap (x12 + 1))))], [[vc0_0, vc0_1, vc0_2, vc0_3, vc0_4]], gh⟩))
theorem D_ref_CheckModel_k6_ok {x10 : Int} {v11 : PV} {x12 : Int} {vc0_0 vc0_1 : PV} {vc0_2 vc0_3 vc0_4 : PV} (h : D_ref_CheckModel_k6 pg x10 v11 x12 vc0_0 vc0_1 vc0_2 vc0_3 vc0_4 gh = some (e, s)) : runL pg f_ref_CheckModel_k6 ⟨[(1, .ptr false 0 0), (10, I x10), (11, v11), (12, I x12)], [[vc0_0, vc0_1, vc0_2, vc0_3, vc0_4]], gh⟩ = some (e, s) :=
  runX_ok an_ref_CheckModel (Eq.trans (by kernel_rfl) h)
def D_ref_CheckModel_b5 (pg : Prg) (x10 : Int) (v11 : PV) (x12 : Int) (vc0_0 vc0_1 : PV) (vc0_2 vc0_3 vc0_4 : PV) (gh : List GObj) : DR := isC (degr v11) (lenS (degr (degr v11)) fun n1 => stK 1 v11 (
  br 142 (decide (x12 < (n1 : Int))) (stK 1 v11 (
  kR (runL pg f_ref_CheckModel_l6 ⟨[(1, .ptr false 0 0), (10, I x10), (11, v11), (12, I x12), (13, I 0)], [[vc0_0, vc0_1, vc0_2, vc0_3, vc0_4]], gh⟩) (fun e s => bk 9 e s (fun e s => nx e s (fun e s => po [1, 10, 11, 12] 1 e s (fun e s => some (e, s))) fun s => kR (runL pg f_ref_CheckModel_k6 s) (fun e s => po [1, 10, 11, 12] 1 e s (fun e s => some (e, s))))))) (some ((.exit 8), ⟨[(1, .ptr false 0 0), (10, I x10), (11, v11), (12, I x12), (142, (B (decide (x12 < (n1 : Int)))))], [[vc0_0, vc0_1, vc0_2, vc0_3, vc0_4]], gh⟩))))
theorem D_ref_CheckModel_b5_ok {x10 : Int} {v11 : PV} {x12 : Int} {vc0_0 vc0_1 : PV} {vc0_2 vc0_3 vc0_4 : PV} (h : D_ref_CheckModel_b5 pg x10 v11 x12 vc0_0 vc0_1 vc0_2 vc0_3 vc0_4 gh = some (e, s)) : runL pg f_ref_CheckModel_b5 ⟨[(1, .ptr false 0 0), (10, I x10), (11, v11), (12, I x12)], [[vc0_0, vc0_1, vc0_2, vc0_3, vc0_4]], gh⟩ = some (e, s) :=
  runX_ok an_ref_CheckModel (Eq.trans (by kernel_rfl) h)
def D_ref_CheckModel_k5 (pg : Prg) (x10 : Int) (v11 vc0_0 : PV) (vc0_1 vc0_2 : PV) (vc0_3 vc0_4 : PV) (gh : List GObj) : DR := stK 1 v11 (
  kR (runL pg f_ref_CheckModel_l5 ⟨[(1, .ptr false 0 0), (10, I x10), (11, v11), (12, I 0)], [[vc0_0, vc0_1, vc0_2, vc0_3, vc0_4]], gh⟩) (fun e s => some (e, s)))
theorem D_ref_CheckModel_k5_ok {x10 : Int} {v11 vc0_0 : PV} {vc0_1 vc0_2 : PV} {vc0_3 vc0_4 : PV} (h : D_ref_CheckModel_k5 pg x10 v11 vc0_0 vc0_1 vc0_2 vc0_3 vc0_4 gh = some (e, s)) : runL pg f_ref_CheckModel_k5 ⟨[(1, .ptr false 0 0), (10, I x10), (11, v11)], [[vc0_0, vc0_1, vc0_2, vc0_3, vc0_4]], gh⟩ = some (e, s) :=
  runX_ok an_ref_CheckModel (Eq.trans (by kernel_rfl) h)
def D_ref_CheckModel_k7 (pg : Prg) (x10 : Int) (vc0_0 vc0_1 : PV) (vc0_2 vc0_3 vc0_4 : PV) (gh : List GObj) : DR := some (.normal, ⟨[(1, .ptr false 0 0), (10, (I (IntKind.i64.wrap (x10 + 1))))], [[vc0_0, vc0_1, vc0_2, vc0_3, vc0_4]], gh⟩)
theorem D_ref_CheckModel_k7_ok {x10 : Int} {vc0_0 vc0_1 : PV} {vc0_2 vc0_3 vc0_4 : PV} (h : D_ref_CheckModel_k7 pg x10 vc0_0 vc0_1 vc0_2 vc0_3 vc0_4 gh = some (e, s)) : runL pg f_ref_CheckModel_k7 ⟨[(1, .ptr false 0 0), (10, I x10)], [[vc0_0, vc0_1, vc0_2, vc0_3, vc0_4]], gh⟩ = some (e, s) :=
  runX_ok an_ref_CheckModel (Eq.trans (by kernel_rfl) h)
def D_ref_CheckModel_b4 (pg : Prg) (x10 : Int) (vc0_0 vc0_1 : PV) (vc0_2 vc0_3 vc0_4 : PV) (gh : List GObj) : DR :=
  br 130 (decide (x10 < 2)) (isC (degr vc0_1) (stK 1 (degr vc0_1) (stK 1 (degr vc0_1) (
  br 136 (x10 == 1) (isC (degr vc0_2) (stK 1 (degr vc0_2) (stK 1 (degr vc0_2) (
  kR (runL pg f_ref_CheckModel_k5 ⟨[(1, .ptr false 0 0), (10, I x10), (11, (degr vc0_2))], [[vc0_0, vc0_1, vc0_2, vc0_3, vc0_4]], gh⟩) (fun e s => bk 7 e s (fun e s => nx e s (fun e s => po [1, 10] 1 e s (fun e s => some (e, s))) fun s => kR (runL pg f_ref_CheckModel_k7 s) (fun e s => po [1, 10] 1 e s (fun e s => some (e, s))))))))) (stK 1 (degr vc0_1) (
  kR (runL pg f_ref_CheckModel_k5 ⟨[(1, .ptr false 0 0), (10, I x10), (11, (degr vc0_1))], [[vc0_0, vc0_1, vc0_2, vc0_3, vc0_4]], gh⟩) (fun e s => bk 7 e s (fun e s => nx e s (fun e s => po [1, 10] 1 e s (fun e s => some (e, s))) fun s => kR (runL pg f_ref_CheckModel_k7 s) (fun e s => po [1, 10] 1 e s (fun e s => some (e, s))))))))))) (some ((.exit 6), ⟨[(1, .ptr false 0 0), (10, I x10), (130, (B (decide (x10 < 2))))], [[vc0_0, vc0_1, vc0_2, vc0_3, vc0_4]], gh⟩))
theorem D_ref_CheckModel_b4_ok {x10 : Int} {vc0_0 vc0_1 : PV} {vc0_2 vc0_3 vc0_4 : PV} (h : D_ref_CheckModel_b4 pg x10 vc0_0 vc0_1 vc0_2 vc0_3 vc0_4 gh = some (e, s)) : runL pg f_ref_CheckModel_b4 ⟨[(1, .ptr false 0 0), (10, I x10)], [[vc0_0, vc0_1, vc0_2, vc0_3, vc0_4]], gh⟩ = some (e, s) :=
  runX_ok an_ref_CheckModel (Eq.trans (by kernel_rfl) h)
def D_ref_CheckModel_b7 (pg : Prg) (v14 : PV) (x15 : Int) (vc0_0 vc0_1 : PV) (vc0_2 vc0_3 vc0_4 : PV) (gh : List GObj) : DR := isC (degr v14) (lenS (degr (degr v14)) fun n1 => stK 1 v14 (
  br 178 (decide (x15 < (n1 : Int))) (isC (degr v14) (
  idX 1 none (degr (degr v14)) x15 fun p2 =>
  ldX [[vc0_0, vc0_1, vc0_2, vc0_3, vc0_4]] gh false 1 (degr p2) fun v3 => unI .i64 v3 fun n4 => isC (degr vc0_0) (lenS (degr (degr vc0_0)) fun n5 =>
  callR gh true (callL pg 50 [I n4, I 0, (I (IntKind.i64.wrap ((n5 : Int) - 1)))] gh) fun r6 gh7 => unB r6 fun b8 => stK 1 v14 (
  br 190 (!b8) (some (.ret, ⟨[(2, I 5)], [], gh7⟩)) (stK 1 v14 (stK 1 v14 (some (.normal, ⟨[(1, .ptr false 0 0), (14, v14), (15, (I (IntKind.i64.wrap (x15 + 1))))], [[vc0_0, vc0_1, vc0_2, vc0_3, vc0_4]], gh7⟩)))))))) (some ((.exit 12), ⟨[(1, .ptr false 0 0), (14, v14), (15, I x15), (178, (B (decide (x15 < (n1 : Int)))))], [[vc0_0, vc0_1, vc0_2, vc0_3, vc0_4]], gh⟩))))
theorem D_ref_CheckModel_b7_ok {v14 : PV} {x15 : Int} {vc0_0 vc0_1 : PV} {vc0_2 vc0_3 vc0_4 : PV} (h : D_ref_CheckModel_b7 pg v14 x15 vc0_0 vc0_1 vc0_2 vc0_3 vc0_4 gh = some (e, s)) : runL pg f_ref_CheckModel_b7 ⟨[(1, .ptr false 0 0), (14, v14), (15, I x15)], [[vc0_0, vc0_1, vc0_2, vc0_3, vc0_4]], gh⟩ = some (e, s) :=
  runX_ok an_ref_CheckModel (Eq.trans (by kernel_rfl) h)
def D_ref_CheckModel_b8 (pg : Prg) (v14 : PV) (x16 : Int) (vc0_0 vc0_1 : PV) (vc0_2 vc0_3 vc0_4 : PV) (gh : List GObj) : DR := isC (degr v14) (lenS (degr (degr v14)) fun n1 => stK 1 v14 (
  br 194 (decide (x16 < (n1 : Int))) (isC (degr vc0_0) (isC (degr v14) (
  idX 1 none (degr (degr v14)) x16 fun p2 =>
  ldX [[vc0_0, vc0_1, vc0_2, vc0_3, vc0_4]] gh false 1 (degr p2) fun v3 => unI .i64 v3 fun n4 =>
  idX 6 none (degr (degr vc0_0)) n4 fun p5 => faX (degr p5) 1 fun p6 =>
  ldX [[vc0_0, vc0_1, vc0_2, vc0_3, vc0_4]] gh false 1 (degr p6) fun v7 => unI .i64 v7 fun n8 => stK 1 v14 (
  br 206 (n8 != 1) (some (.ret, ⟨[(2, I 1)], [], gh⟩)) (stK 1 v14 (stK 1 v14 (some (.normal, ⟨[(1, .ptr false 0 0), (14, v14), (16, (I (IntKind.i64.wrap (x16 + 1))))], [[vc0_0, vc0_1, vc0_2, vc0_3, vc0_4]], gh⟩)))))))) (some ((.exit 14), ⟨[(1, .ptr false 0 0), (14, v14), (16, I x16), (194, (B (decide (x16 < (n1 : Int)))))], [[vc0_0, vc0_1, vc0_2, vc0_3, vc0_4]], gh⟩))))
theorem D_ref_CheckModel_b8_ok {v14 : PV} {x16 : Int} {vc0_0 vc0_1 : PV} {vc0_2 vc0_3 vc0_4 : PV} (h : D_ref_CheckModel_b8 pg v14 x16 vc0_0 vc0_1 vc0_2 vc0_3 vc0_4 gh = some (e, s)) : runL pg f_ref_CheckModel_b8 ⟨[(1, .ptr false 0 0), (14, v14), (16, I x16)], [[vc0_0, vc0_1, vc0_2, vc0_3, vc0_4]], gh⟩ = some (e, s) :=
  runX_ok an_ref_CheckModel (Eq.trans (by kernel_rfl) h)
def D_ref_CheckModel_k10 (pg : Prg)  (gh : List GObj) : DR := some (.ret, ⟨[(2, I 0)], [], gh⟩)
theorem D_ref_CheckModel_k10_ok  (h : D_ref_CheckModel_k10 pg  gh = some (e, s)) : runL pg f_ref_CheckModel_k10 ⟨[], [], gh⟩ = some (e, s) :=
  runX_ok an_ref_CheckModel (Eq.trans (by kernel_rfl) h)
def D_ref_CheckModel_k9 (pg : Prg) (v14 vc0_0 : PV) (vc0_1 vc0_2 : PV) (vc0_3 vc0_4 : PV) (gh : List GObj) : DR := stK 1 v14 (
  kR (runL pg f_ref_CheckModel_l8 ⟨[(1, .ptr false 0 0), (14, v14), (16, I 0)], [[vc0_0, vc0_1, vc0_2, vc0_3, vc0_4]], gh⟩) (fun e s => nx e s (fun e s => some (e, s)) fun s => kR (runL pg f_ref_CheckModel_k10 s) (fun e s => some (e, s))))
theorem D_ref_CheckModel_k9_ok {v14 vc0_0 : PV} {vc0_1 vc0_2 : PV} {vc0_3 vc0_4 : PV} (h : D_ref_CheckModel_k9 pg v14 vc0_0 vc0_1 vc0_2 vc0_3 vc0_4 gh = some (e, s)) : runL pg f_ref_CheckModel_k9 ⟨[(1, .ptr false 0 0), (14, v14)], [[vc0_0, vc0_1, vc0_2, vc0_3, vc0_4]], gh⟩ = some (e, s) :=
  runX_ok an_ref_CheckModel (Eq.trans (by kernel_rfl) h)
def D_ref_CheckModel_k8 (pg : Prg) (vc0_0 vc0_1 : PV) (vc0_2 vc0_3 vc0_4 : PV) (gh : List GObj) : DR := isC (degr vc0_2) (lenS (degr (degr vc0_2)) fun n1 => onK (degr1 (degr1 vc0_0)) (onK (degr1 (degr1 vc0_1)) (onK (degr1 (degr1 vc0_2)) (onK (degr1 (degr1 vc0_3)) (onK (degr1 (degr1 vc0_4)) (
  callR gh true (callL pg 39 [(.agg [(degr1 (degr1 vc0_0)), (degr1 (degr1 vc0_1)), (degr1 (degr1 vc0_2)), (degr1 (degr1 vc0_3)), (degr1 (degr1 vc0_4))]), I 3] gh) fun r2 gh3 => isC r2 (lenS (degr r2) fun n4 =>
  br 167 ((n1 : Int) != (n4 : Int)) (some (.ret, ⟨[(2, I 5)], [], gh3⟩)) (isC (degr vc0_3) (
  apX 1 8 (.sl true 1 []) (degr (degr vc0_3)) fun l5 => isC (degr vc0_4) (
  apX 1 8 (.sl true 1 l5) (degr (degr vc0_4)) fun l6 =>
  kR (runL pg f_ref_CheckModel_l7 ⟨[(1, .ptr false 0 0), (14, .sl true 1 l6), (15, I 0)], [[vc0_0, vc0_1, vc0_2, vc0_3, vc0_4]], gh3⟩) (fun e s => nx e s (fun e s => some (e, s)) fun s => kR (runL pg f_ref_CheckModel_k9 s) (fun e s => some (e, s)))))))))))))
theorem D_ref_CheckModel_k8_ok {vc0_0 vc0_1 : PV} {vc0_2 vc0_3 vc0_4 : PV} (h : D_ref_CheckModel_k8 pg vc0_0 vc0_1 vc0_2 vc0_3 vc0_4 gh = some (e, s)) : runL pg f_ref_CheckModel_k8 ⟨[(1, .ptr false 0 0)], [[vc0_0, vc0_1, vc0_2, vc0_3, vc0_4]], gh⟩ = some (e, s) :=
  runX_ok an_ref_CheckModel (Eq.trans (by kernel_rfl) h)
def D_ref_CheckModel_k4 (pg : Prg) (vc0_0 vc0_1 : PV) (vc0_2 vc0_3 vc0_4 : PV) (gh : List GObj) : DR :=
  kR (runL pg f_ref_CheckModel_l4 ⟨[(1, .ptr false 0 0), (10, I 0)], [[vc0_0, vc0_1, vc0_2, vc0_3, vc0_4]], gh⟩) (fun e s => nx e s (fun e s => some (e, s)) fun s => kR (runL pg f_ref_CheckModel_k8 s) (fun e s => some (e, s)))
theorem D_ref_CheckModel_k4_ok {vc0_0 vc0_1 : PV} {vc0_2 vc0_3 vc0_4 : PV} (h : D_ref_CheckModel_k4 pg vc0_0 vc0_1 vc0_2 vc0_3 vc0_4 gh = some (e, s)) : runL pg f_ref_CheckModel_k4 ⟨[(1, .ptr false 0 0)], [[vc0_0, vc0_1, vc0_2, vc0_3, vc0_4]], gh⟩ = some (e, s) :=
  runX_ok an_ref_CheckModel (Eq.trans (by kernel_rfl) h)
def D_ref_CheckModel_k1 (pg : Prg) (vc0_0 vc0_1 : PV) (vc0_2 vc0_3 vc0_4 : PV) (gh : List GObj) : DR := onK (degr1 (degr1 vc0_0)) (onK (degr1 (degr1 vc0_1)) (onK (degr1 (degr1 vc0_2)) (onK (degr1 (degr1 vc0_3)) (onK (degr1 (degr1 vc0_4)) (
  callR gh true (callL pg 73 [(.agg [(degr1 (degr1 vc0_0)), (degr1 (degr1 vc0_1)), (degr1 (degr1 vc0_2)), (degr1 (degr1 vc0_3)), (degr1 (degr1 vc0_4))]), I 2] gh) fun r1 gh2 => unI .i64 r1 fun n3 =>
  br 50 (decide (6 < n3)) (some (.ret, ⟨[(2, I 2)], [], gh2⟩)) (onK (degr1 (degr1 vc0_0)) (onK (degr1 (degr1 vc0_1)) (onK (degr1 (degr1 vc0_2)) (onK (degr1 (degr1 vc0_3)) (onK (degr1 (degr1 vc0_4)) (
  callR gh2 true (callL pg 73 [(.agg [(degr1 (degr1 vc0_0)), (degr1 (degr1 vc0_1)), (degr1 (degr1 vc0_2)), (degr1 (degr1 vc0_3)), (degr1 (degr1 vc0_4))]), I 3] gh2) fun r4 gh5 => unI .i64 r4 fun n6 =>
  br 54 (decide (10 < n6)) (some (.ret, ⟨[(2, I 2)], [], gh5⟩)) (onK (degr1 (degr1 vc0_0)) (onK (degr1 (degr1 vc0_1)) (onK (degr1 (degr1 vc0_2)) (onK (degr1 (degr1 vc0_3)) (onK (degr1 (degr1 vc0_4)) (
  callR gh5 true (callL pg 74 [(.agg [(degr1 (degr1 vc0_0)), (degr1 (degr1 vc0_1)), (degr1 (degr1 vc0_2)), (degr1 (degr1 vc0_3)), (degr1 (degr1 vc0_4))])] gh5) fun r7 gh8 => isC r7 (stK 1 r7 (stK 1 r7 (
  kR (runL pg f_ref_CheckModel_l2 ⟨[(1, .ptr false 0 0), (5, r7), (6, I 0)], [[vc0_0, vc0_1, vc0_2, vc0_3, vc0_4]], gh8⟩) (fun e s => nx e s (fun e s => some (e, s)) fun s => kR (runL pg f_ref_CheckModel_k4 s) (fun e s => some (e, s)))))))))))))))))))))))
theorem D_ref_CheckModel_k1_ok {vc0_0 vc0_1 : PV} {vc0_2 vc0_3 vc0_4 : PV} (h : D_ref_CheckModel_k1 pg vc0_0 vc0_1 vc0_2 vc0_3 vc0_4 gh = some (e, s)) : runL pg f_ref_CheckModel_k1 ⟨[(1, .ptr false 0 0)], [[vc0_0, vc0_1, vc0_2, vc0_3, vc0_4]], gh⟩ = some (e, s) :=
  runX_ok an_ref_CheckModel (Eq.trans (by kernel_rfl) h)
def D_ref_CheckModel_0 (pg : Prg) (v0_0 v0_1 : PV) (v0_2 v0_3 v0_4 : PV) (gh : List GObj) : DR := onK (degr1 v0_0) (onK (degr1 v0_1) (onK (degr1 v0_2) (onK (degr1 v0_3) (onK (degr1 v0_4) (isC (degr (degr1 v0_0)) (lenS (degr (degr (degr1 v0_0))) fun n1 =>
  br 21 (decide (80 < (n1 : Int))) (some (.ret, ⟨[(2, I 2)], [], gh⟩)) (isC (degr (degr1 v0_3)) (lenS (degr (degr (degr1 v0_3))) fun n2 =>
  br 27 (decide (8 < (n2 : Int))) (some (.ret, ⟨[(2, I 2)], [], gh⟩)) (isC (degr (degr1 v0_4)) (lenS (degr (degr (degr1 v0_4))) fun n3 =>
  br 32 (decide (8 < (n3 : Int))) (some (.ret, ⟨[(2, I 2)], [], gh⟩)) (
  kR (runL pg f_ref_CheckModel_l1 ⟨[(1, .ptr false 0 0), (3, I 0)], [[(degr1 v0_0), (degr1 v0_1), (degr1 v0_2), (degr1 v0_3), (degr1 v0_4)]], gh⟩) (fun e s => nx e s (fun e s => some (e, s)) fun s => kR (runL pg f_ref_CheckModel_k1 s) (fun e s => some (e, s))))))))))))))
theorem D_ref_CheckModel_0_ok {v0_0 v0_1 : PV} {v0_2 v0_3 v0_4 : PV} (h : D_ref_CheckModel_0 pg v0_0 v0_1 v0_2 v0_3 v0_4 gh = some (e, s)) : runL pg f_ref_CheckModel_0 ⟨[(0, .agg [v0_0, v0_1, v0_2, v0_3, v0_4])], [], gh⟩ = some (e, s) :=
  runX_ok an_ref_CheckModel (Eq.trans (by kernel_rfl) h)
end
end Go.Lw
end

/-! Models: inputs and states (the program), and the document's nodes of a kind, bits, and what hangs. -/
section
namespace Go.Lw
open Go
@[simp] theorem ble11 : Nat.ble 1 1 = true := rfl
section
variable {m : Md} {gh : List GObj}
theorem RNodes_loop {kind : Int} (hl : m.nodes.length * 8 ≤ 140737488355328) : ∀ k i (acc : List Int), i + k = m.nodes.length → acc.length ≤ i →
    runL pg f_ref_Nodes_l1 ⟨[(1, I kind), (2, .ptr false 0 0), (5, .sl true 1 (acc.map I)), (6, I (i : Int))], [[LN m.nodes, LP m.inits, LP m.nexts, LI m.bads, LI m.holds]], gh⟩ =
      some (.normal, ⟨[(5, .sl true 1 ((acc ++ kindF kind i (m.nodes.drop i)).map I))], [], gh⟩)
  | 0, i, acc, h, _ => by
    rw [List.drop_eq_nil_of_le (by omega)]
    have hlt : ¬ i < m.nodes.length := by omega
    refine (lp_exit (s1 := ?s1) (D_ref_Nodes_b1_ok ?h1)).trans ?r1
    case h1 => simp [D_ref_Nodes_b1, hlt]; rfl
    case r1 => simp [keep, kindF, stays]
  | k + 1, i, acc, h, ha => by
    have hlt : i < m.nodes.length := by omega
    have hltD : decide (i < m.nodes.length) = true := decide_eq_true hlt
    have hltI : (i : Int) < (m.nodes.length : Int) := by omega
    have e2 : IntKind.i64.wrap ((i : Int) + 1) = ((i + 1 : Nat) : Int) := wrap_nat (by simp only [Sz]; omega)
    have hx : (m.nodes.map nodeV)[i]? = some (nodeV m.nodes[i]) := by simp [List.getElem?_eq_getElem hlt]
    rw [nodeV_def m.nodes[i]] at hx
    have hmx : (acc.length + 1) * 8 ≤ maxBytes := by
      have : maxBytes = 140737488355328 := rfl
      omega
    rw [List.drop_eq_getElem_cons hlt, kindF]
    generalize m.nodes[i] = x at *
    have hk1 : ∀ acc' : List PV, runL pg f_ref_Nodes_k1 ⟨[(1, I kind), (2, .ptr false 0 0), (5, .sl true 1 acc'), (6, I (i : Int))], [[LN m.nodes, LP m.inits, LP m.nexts, LI m.bads, LI m.holds]], gh⟩ = some (.normal, ⟨[(1, I kind), (2, .ptr false 0 0), (5, .sl true 1 acc'), (6, I ((i + 1 : Nat) : Int))], [[LN m.nodes, LP m.inits, LP m.nexts, LI m.bads, LI m.holds]], gh⟩) := fun acc' => by
      refine D_ref_Nodes_k1_ok ?_
      simp [D_ref_Nodes_k1, e2]
    by_cases hk : x.k = kind
    · rw [if_pos hk]
      have e : acc ++ (i : Int) :: kindF kind (i + 1) (m.nodes.drop (i + 1)) = (acc ++ [(i : Int)]) ++ kindF kind (i + 1) (m.nodes.drop (i + 1)) := by simp
      rw [e]
      have hk1 := hk1 (acc.map I ++ [I (i : Int)])
      refine lp_next (s1 := ⟨[(1, I kind), (2, .ptr false 0 0), (5, .sl true 1 ((acc ++ [(i : Int)]).map I)), (6, I ((i + 1 : Nat) : Int))], [[LN m.nodes, LP m.inits, LP m.nexts, LI m.bads, LI m.holds]], gh⟩) (D_ref_Nodes_b1_ok ?_) (RNodes_loop hl k (i + 1) _ (by omega) (by simp; omega))
      have hal : (acc.map I).length = acc.length := by simp
      simp only [List.map_append, List.map_cons, List.map_nil] at hk1 ⊢
      generalize acc.map I = A at *
      simp [D_ref_Nodes_b1, hltD, hx, hk, hal, hmx, hk1, -List.getElem?_map]
    · rw [if_neg hk]
      have hk1 := hk1 (acc.map I)
      refine lp_next (s1 := ⟨[(1, I kind), (2, .ptr false 0 0), (5, .sl true 1 (acc.map I)), (6, I ((i + 1 : Nat) : Int))], [[LN m.nodes, LP m.inits, LP m.nexts, LI m.bads, LI m.holds]], gh⟩) (D_ref_Nodes_b1_ok ?_) (RNodes_loop hl k (i + 1) _ (by omega) (by omega))
      generalize acc.map I = A at *
      simp [D_ref_Nodes_b1, hltD, hx, hk, hk1, -List.getElem?_map]
theorem RNodes_eq {kind : Int} (hl : m.nodes.length * 8 ≤ 140737488355328) : callL pg 39 [modelV m, I kind] gh = some (LI (kindL m.nodes kind), gh) := by
  have h := RNodes_loop (gh := gh) (kind := kind) hl m.nodes.length 0 [] (by omega) (by simp)
  rw [List.drop_zero, List.nil_append] at h
  simp only [List.map_nil, Int.natCast_zero] at h
  have hn := noGs_ints (kindF kind 0 m.nodes)
  have hk := D_ref_Nodes_k2_ok (pg := pg) (gh := gh) (v5 := .sl true 1 ((kindF kind 0 m.nodes).map I)) (e := .ret) (s := ⟨[(4, .sl false 1 ((kindF kind 0 m.nodes).map I))], [], gh⟩) (by simp [D_ref_Nodes_k2])
  unfold kindL
  simp only [LI] at *
  generalize (kindF kind 0 m.nodes).map I = K at *
  rw [modelV_def]
  refine callL_fn (fn := f_ref_Nodes) (s := ⟨[(4, .sl false 1 K)], [], gh⟩) rfl rfl (D_ref_Nodes_0_ok ?h1) ?r1
  case h1 => simp [D_ref_Nodes_0, h, hk]
  case r1 => simp [finish, results, f_ref_Nodes, resOfs, resOf, resOk, hn]
theorem RBits_loop {kind : Int} (hl : m.nodes.length * 8 ≤ 140737488355328) : ∀ k i s, i + k = m.nodes.length →
    runL pg f_ref_Bits_l1 ⟨[(1, I kind), (2, .ptr false 0 0), (5, I s), (6, I (i : Int))], [[LN m.nodes, LP m.inits, LP m.nexts, LI m.bads, LI m.holds]], gh⟩ =
      some (.normal, ⟨[(5, I (((m.nodes.drop i).filter fun x => decide (x.k = kind)).foldl addW s))], [], gh⟩)
  | 0, i, s, h => by
    rw [List.drop_eq_nil_of_le (by omega)]
    have hlt : ¬ i < m.nodes.length := by omega
    refine (lp_exit (s1 := ?s1) (D_ref_Bits_b1_ok ?h1)).trans ?r1
    case h1 => simp [D_ref_Bits_b1, hlt]; rfl
    case r1 => simp [keep, stays]
  | k + 1, i, s, h => by
    have hlt : i < m.nodes.length := by omega
    have hltD : decide (i < m.nodes.length) = true := decide_eq_true hlt
    have hltI : (i : Int) < (m.nodes.length : Int) := by omega
    have e2 : IntKind.i64.wrap ((i : Int) + 1) = ((i + 1 : Nat) : Int) := wrap_nat (by simp only [Sz]; omega)
    have hx : (m.nodes.map nodeV)[i]? = some (nodeV m.nodes[i]) := by simp [List.getElem?_eq_getElem hlt]
    rw [nodeV_def m.nodes[i]] at hx
    rw [List.drop_eq_getElem_cons hlt, List.filter_cons]
    generalize m.nodes[i] = x at *
    have hk1 : ∀ s', runL pg f_ref_Bits_k1 ⟨[(1, I kind), (2, .ptr false 0 0), (5, I s'), (6, I (i : Int))], [[LN m.nodes, LP m.inits, LP m.nexts, LI m.bads, LI m.holds]], gh⟩ = some (.normal, ⟨[(1, I kind), (2, .ptr false 0 0), (5, I s'), (6, I ((i + 1 : Nat) : Int))], [[LN m.nodes, LP m.inits, LP m.nexts, LI m.bads, LI m.holds]], gh⟩) := fun s' => by
      refine D_ref_Bits_k1_ok ?_
      simp [D_ref_Bits_k1, e2]
    by_cases hk : x.k = kind
    · rw [if_pos (by simpa using hk), List.foldl_cons]
      have hk1 := hk1 (IntKind.i64.wrap (s + x.w))
      refine lp_next (s1 := ⟨[(1, I kind), (2, .ptr false 0 0), (5, I (addW s x)), (6, I ((i + 1 : Nat) : Int))], [[LN m.nodes, LP m.inits, LP m.nexts, LI m.bads, LI m.holds]], gh⟩) (D_ref_Bits_b1_ok ?_) (RBits_loop hl k (i + 1) _ (by omega))
      unfold addW
      simp [D_ref_Bits_b1, hltD, hx, hk, hk1, -List.getElem?_map]
    · rw [if_neg (by simpa using hk)]
      have hk1 := hk1 s
      refine lp_next (s1 := ⟨[(1, I kind), (2, .ptr false 0 0), (5, I s), (6, I ((i + 1 : Nat) : Int))], [[LN m.nodes, LP m.inits, LP m.nexts, LI m.bads, LI m.holds]], gh⟩) (D_ref_Bits_b1_ok ?_) (RBits_loop hl k (i + 1) _ (by omega))
      simp [D_ref_Bits_b1, hltD, hx, hk, hk1, -List.getElem?_map]
theorem RBits_eq {kind : Int} (hl : m.nodes.length * 8 ≤ 140737488355328) : callL pg 73 [modelV m, I kind] gh = some (I (bitsK m.nodes kind), gh) := by
  have h := RBits_loop (gh := gh) (kind := kind) hl m.nodes.length 0 0 (by omega)
  rw [List.drop_zero] at h
  simp only [Int.natCast_zero] at h
  unfold bitsK
  generalize (m.nodes.filter fun x => decide (x.k = kind)).foldl addW 0 = r at *
  have hk := D_ref_Bits_k2_ok (pg := pg) (gh := gh) (x5 := r) rfl
  rw [modelV_def]
  refine callL_fn (fn := f_ref_Bits) (s := ⟨[(4, I r)], [], gh⟩) rfl rfl (D_ref_Bits_0_ok ?h1) ?r1
  case h1 => simp [D_ref_Bits_0, h, hk]
  case r1 => simp [finish, results, f_ref_Bits, resOfs, resOf, resOk]
end
end Go.Lw
end

/-! Models: what hangs (the document). -/
section
namespace Go.Lw
open Go
section
variable {m : Md} {gh : List GObj}
def stepB (on : Prop) [Decidable on] (f : List Bool) (b : Bool) (a : Int) : Bool := if on then b || f.getD a.toNat false else b
theorem hangB_steps (f : List Bool) (x : Nd) : hangB f x = stepB (2 < takesOf x.k) f (stepB (1 < takesOf x.k) f (stepB (0 < takesOf x.k) f (decide (x.k = 2 ∨ x.k = 3)) x.a) x.b) x.c := by
  unfold hangB argsL stepB
  rcases takes_cases x.k with h | h | h | h <;> rw [h] <;> simp [Bool.or_assoc]
abbrev mcells (m : Md) : List PV := [LN m.nodes, LP m.inits, LP m.nexts, LI m.bads, LI m.holds]
theorem hangs_k3 {f : List Bool} {i : Int} {b : Bool} (hf : f.length ≤ 1000) :
    runL pg f_ref_hangs_k3 ⟨[(1, .ptr false 0 0), (3, .sl true 1 (f.map B)), (4, I i), (6, B b)], [mcells m], gh⟩ = some (.normal, ⟨[(1, .ptr false 0 0), (3, .sl true 1 ((f ++ [b]).map B)), (4, I i)], [mcells m], gh⟩) := by
  have hmx : f.length + 1 ≤ maxBytes := by
    have : maxBytes = 140737488355328 := rfl
    omega
  refine D_ref_hangs_k3_ok ?_
  simp [D_ref_hangs_k3, hmx]
theorem hangs_k2 {f : List Bool} {i : Int} {b : Bool} {x : Nd} (hf : f.length ≤ 1000) (hc : 2 < takesOf x.k → 0 ≤ x.c ∧ x.c.toNat < f.length) :
    runL pg f_ref_hangs_k2 ⟨[(1, .ptr false 0 0), (3, .sl true 1 (f.map B)), (4, I i), (5, .ptr false 1 0), (6, B b)], [mcells m, [I x.k, I x.w, I x.a, I x.b, I x.c, I x.n]], gh⟩ =
      some (.normal, ⟨[(1, .ptr false 0 0), (3, .sl true 1 ((f ++ [stepB (2 < takesOf x.k) f b x.c]).map B)), (4, I i)], [mcells m], gh⟩) := by
  have ht := RTakes_eq x.k gh
  have k3 := fun b' => hangs_k3 (m := m) (gh := gh) (i := i) (b := b') hf
  unfold stepB
  refine D_ref_hangs_k2_ok ?_
  by_cases h : 2 < takesOf x.k
  · obtain ⟨h0, h1⟩ := hc h
    have hfr := fr_idx h1
    rw [if_pos h]
    generalize f.getD x.c.toNat false = c at *
    generalize takesOf x.k = t at *
    cases b with
    | true =>
      have k3 := k3 true
      simp only [mcells] at *
      simp [D_ref_hangs_k2, ht, h, k3]
    | false =>
      have k3 := k3 c
      simp only [mcells, Bool.false_or] at *
      generalize (f ++ [c]).map B = F2 at *
      generalize f.map B = F at *
      simp [D_ref_hangs_k2, ht, h, h0, hfr, k3]
  · rw [if_neg h]
    have k3 := k3 b
    generalize takesOf x.k = t at *
    simp only [mcells] at *
    generalize (f ++ [b]).map B = F2 at *
    generalize f.map B = F at *
    simp [D_ref_hangs_k2, ht, h, k3]
theorem hangs_k1 {f : List Bool} {i : Int} {b : Bool} {x : Nd} (hf : f.length ≤ 1000) (hb : 1 < takesOf x.k → 0 ≤ x.b ∧ x.b.toNat < f.length) (hc : 2 < takesOf x.k → 0 ≤ x.c ∧ x.c.toNat < f.length) :
    runL pg f_ref_hangs_k1 ⟨[(1, .ptr false 0 0), (3, .sl true 1 (f.map B)), (4, I i), (5, .ptr false 1 0), (6, B b)], [mcells m, [I x.k, I x.w, I x.a, I x.b, I x.c, I x.n]], gh⟩ =
      some (.normal, ⟨[(1, .ptr false 0 0), (3, .sl true 1 ((f ++ [stepB (2 < takesOf x.k) f (stepB (1 < takesOf x.k) f b x.b) x.c]).map B)), (4, I i)], [mcells m], gh⟩) := by
  have ht := RTakes_eq x.k gh
  have k2 := fun b' => hangs_k2 (m := m) (gh := gh) (i := i) (b := b') hf hc
  have e : ∀ c, stepB (1 < takesOf x.k) f b c = if 1 < takesOf x.k then b || f.getD c.toNat false else b := fun _ => rfl
  rw [e]
  refine D_ref_hangs_k1_ok ?_
  by_cases h : 1 < takesOf x.k
  · obtain ⟨h0, h1⟩ := hb h
    have hfr := fr_idx h1
    rw [if_pos h]
    generalize f.getD x.b.toNat false = c at *
    cases b with
    | true =>
      have k2 := k2 true
      rw [Bool.true_or]
      generalize stepB (2 < takesOf x.k) f true x.c = r at *
      simp only [mcells] at *
      generalize takesOf x.k = t at *
      generalize (f ++ [r]).map B = F2 at *
      generalize f.map B = F at *
      simp [D_ref_hangs_k1, ht, h, k2]
    | false =>
      have k2 := k2 c
      rw [Bool.false_or]
      simp only [mcells] at *
      generalize stepB (2 < takesOf x.k) f c x.c = r at *
      generalize takesOf x.k = t at *
      generalize (f ++ [r]).map B = F2 at *
      generalize f.map B = F at *
      simp [D_ref_hangs_k1, ht, h, h0, hfr, k2]
  · rw [if_neg h]
    have k2 := k2 b
    generalize stepB (2 < takesOf x.k) f b x.c = r at *
    generalize takesOf x.k = t at *
    simp only [mcells] at *
    generalize (f ++ [r]).map B = F2 at *
    generalize f.map B = F at *
    simp [D_ref_hangs_k1, ht, h, k2]
theorem hangs_loop (hA : Ahead m.nodes) (hl : m.nodes.length ≤ 1000) : ∀ k i (f : List Bool), i + k = m.nodes.length → f.length = i →
    runL pg f_ref_hangs_l1 ⟨[(1, .ptr false 0 0), (3, .sl true 1 (f.map B)), (4, I (i : Int))], [mcells m], gh⟩ = some (.normal, ⟨[(3, .sl true 1 ((hangF f (m.nodes.drop i)).map B))], [], gh⟩)
  | 0, i, f, h, _ => by
    rw [List.drop_eq_nil_of_le (by omega)]
    have hlt : ¬ i < m.nodes.length := by omega
    refine (lp_exit (s1 := ?s1) (D_ref_hangs_b1_ok ?h1)).trans ?r1
    case h1 => simp [D_ref_hangs_b1, hlt]; rfl
    case r1 => simp [keep, hangF, stays]
  | k + 1, i, f, h, hf => by
    have hlt : i < m.nodes.length := by omega
    have hltD : decide (i < m.nodes.length) = true := decide_eq_true hlt
    have e2 : IntKind.i64.wrap ((i : Int) + 1) = ((i + 1 : Nat) : Int) := by rw [wrap_id (by omega) (by omega)]; omega
    have hx : (m.nodes.map nodeV)[i]? = some (nodeV m.nodes[i]) := by simp [List.getElem?_eq_getElem hlt]
    have hah := hA i _ (List.getElem?_eq_getElem hlt)
    rw [List.drop_eq_getElem_cons hlt, hangF, hangB_steps]
    generalize m.nodes[i] = x at *
    rw [nodeV_def x] at hx
    have ha : 0 < takesOf x.k → 0 ≤ x.a ∧ x.a.toNat < f.length := fun ht => by
      have := hah x.a (by unfold argsL; rcases takes_cases x.k with h | h | h | h <;> rw [h] at ht ⊢ <;> simp at ht ⊢)
      omega
    have hb : 1 < takesOf x.k → 0 ≤ x.b ∧ x.b.toNat < f.length := fun ht => by
      have := hah x.b (by unfold argsL; rcases takes_cases x.k with h | h | h | h <;> rw [h] at ht ⊢ <;> simp at ht ⊢)
      omega
    have hc : 2 < takesOf x.k → 0 ≤ x.c ∧ x.c.toNat < f.length := fun ht => by
      have := hah x.c (by unfold argsL; rcases takes_cases x.k with h | h | h | h <;> rw [h] at ht ⊢ <;> simp at ht ⊢)
      omega
    have k1 := fun b' => hangs_k1 (m := m) (gh := gh) (i := (i : Int)) (b := b') (by omega : f.length ≤ 1000) hb hc
    have k4 : ∀ f' : List PV, runL pg f_ref_hangs_k4 ⟨[(1, .ptr false 0 0), (3, .sl true 1 f'), (4, I (i : Int))], [mcells m], gh⟩ = some (.normal, ⟨[(1, .ptr false 0 0), (3, .sl true 1 f'), (4, I ((i + 1 : Nat) : Int))], [mcells m], gh⟩) := fun f' => by
      refine D_ref_hangs_k4_ok ?_
      simp [D_ref_hangs_k4, e2]
    have ht := RTakes_eq x.k gh
    refine lp_next (D_ref_hangs_b1_ok ?_) (hangs_loop hA hl k (i + 1) _ (by omega) (by simp; omega))
    have e0 : ∀ b, stepB (0 < takesOf x.k) f b x.a = if 0 < takesOf x.k then b || f.getD x.a.toNat false else b := fun _ => rfl
    rw [e0]
    simp only [mcells] at *
    by_cases h2 : x.k = 2
    · have d2 : decide (x.k = 2) = true := decide_eq_true h2
      have hd : decide (x.k = 2 ∨ x.k = 3) = true := decide_eq_true (.inl h2)
      rw [hd]
      have hif : (if 0 < takesOf x.k then true || f.getD x.a.toNat false else true) = true := by split <;> simp
      rw [hif]
      have k1 := k1 true
      generalize stepB (2 < takesOf x.k) f (stepB (1 < takesOf x.k) f true x.b) x.c = r at *
      have k4 := k4 ((f ++ [r]).map B)
      generalize takesOf x.k = t at *
      generalize (f ++ [r]).map B = F2 at *
      generalize f.map B = F at *
      by_cases h0 : 0 < t
      · simp [D_ref_hangs_b1, hltD, hx, d2, ht, h0, k1, k4, -List.getElem?_map]
      · simp [D_ref_hangs_b1, hltD, hx, d2, ht, h0, k1, k4, -List.getElem?_map]
    · have d2 : decide (x.k = 2) = false := decide_eq_false h2
      have hd : decide (x.k = 2 ∨ x.k = 3) = decide (x.k = 3) := by simp [h2]
      rw [hd]
      by_cases h0 : 0 < takesOf x.k
      · rw [if_pos h0]
        obtain ⟨ha0, ha1⟩ := ha h0
        have hfr := fr_idx ha1
        generalize f.getD x.a.toNat false = c at *
        have k1 := k1 (decide (x.k = 3) || c)
        generalize hb3 : decide (x.k = 3) = b3 at *
        generalize stepB (2 < takesOf x.k) f (stepB (1 < takesOf x.k) f (b3 || c) x.b) x.c = r at *
        have k4 := k4 ((f ++ [r]).map B)
        generalize takesOf x.k = t at *
        generalize (f ++ [r]).map B = F2 at *
        generalize f.map B = F at *
        cases b3 with
        | true =>
          rw [Bool.true_or] at k1
          simp [D_ref_hangs_b1, hltD, hx, d2, ht, h0, hb3, k1, k4, -List.getElem?_map]
        | false =>
          rw [Bool.false_or] at k1
          simp [D_ref_hangs_b1, hltD, hx, d2, ht, h0, hb3, ha0, hfr, k1, k4, -List.getElem?_map]
      · rw [if_neg h0]
        have k1 := k1 (decide (x.k = 3))
        generalize hb3 : decide (x.k = 3) = b3 at *
        generalize stepB (2 < takesOf x.k) f (stepB (1 < takesOf x.k) f b3 x.b) x.c = r at *
        have k4 := k4 ((f ++ [r]).map B)
        generalize takesOf x.k = t at *
        generalize (f ++ [r]).map B = F2 at *
        generalize f.map B = F at *
        simp [D_ref_hangs_b1, hltD, hx, d2, ht, h0, hb3, k1, k4, -List.getElem?_map]
theorem hangs_eq (hA : Ahead m.nodes) (hl : m.nodes.length ≤ 1000) : callL pg 74 [modelV m] gh = some (.sl false 1 ((hangF [] m.nodes).map B), gh) := by
  have h := hangs_loop (gh := gh) hA hl m.nodes.length 0 [] (by omega) rfl
  rw [List.drop_zero] at h
  simp only [List.map_nil, Int.natCast_zero, mcells] at h
  have hn : noGs ((hangF [] m.nodes).map B) = true := by
    generalize hangF [] m.nodes = l
    induction l with
    | nil => rfl
    | cons a l ih => simpa using ih
  generalize (hangF [] m.nodes).map B = K at *
  have hk := D_ref_hangs_k5_ok (pg := pg) (gh := gh) (v3 := .sl true 1 K) (e := .ret) (s := ⟨[(2, .sl false 1 K)], [], gh⟩) (by simp [D_ref_hangs_k5])
  rw [modelV_def]
  refine callL_fn (fn := f_ref_hangs) (s := ⟨[(2, .sl false 1 K)], [], gh⟩) rfl rfl (D_ref_hangs_0_ok ?h1) ?r1
  case h1 => simp [D_ref_hangs_0, h, hk]
  case r1 => simp [finish, results, f_ref_hangs, resOfs, resOf, resOk, hn]
end
end Go.Lw
end

/-! Models: the whole check (the document): loops. -/
section
namespace Go.Lw
open Go
def dupF : List (Int × Int) → List (Int × Int) → Bool
  | _, [] => false
  | pre, p :: l => pre.any (fun q => decide (p.1 = q.1)) || dupF (pre ++ [p]) l
theorem dupF_false : ∀ {pre l : List (Int × Int)}, dupF pre l = false ↔ ((l.map (·.1)).Nodup ∧ ∀ p ∈ l, ∀ q ∈ pre, p.1 ≠ q.1)
  | pre, [] => by simp [dupF]
  | pre, p :: l => by
    rw [dupF, Bool.or_eq_false_iff, dupF_false (pre := pre ++ [p]) (l := l)]
    simp only [List.any_eq_false, List.map_cons, List.nodup_cons, List.mem_cons, List.mem_append, List.not_mem_nil, or_false, decide_eq_true_eq]
    constructor
    · rintro ⟨h1, h2, h3⟩
      refine ⟨⟨fun hm => ?_, h2⟩, ?_⟩
      · obtain ⟨q, hq, he⟩ := List.mem_map.1 hm
        exact h3 q hq p (.inr rfl) he
      · rintro a (rfl | ha) q hq
        · exact h1 q hq
        · exact h3 a ha q (.inl hq)
    · rintro ⟨⟨h1, h2⟩, h3⟩
      refine ⟨fun q hq => h3 p (.inl rfl) q hq, h2, fun a ha q hq => ?_⟩
      rcases hq with hq | rfl
      · exact h3 a (.inr ha) q hq
      · exact fun he => h1 (he ▸ List.mem_map_of_mem ha)
theorem dupF_twice (l : List (Int × Int)) : dupF [] l = decide (twice l) := by
  have h := dupF_false (pre := []) (l := l)
  unfold twice
  cases hd : dupF [] l with
  | false => exact (decide_eq_false fun hn => hn (h.1 hd).1).symm
  | true =>
    have : ¬ dupF [] l = false := by simp [hd]
    rw [h] at this
    exact (decide_eq_true (p := ¬ (l.map (·.1)).Nodup) fun hn => this ⟨hn, by simp⟩).symm
section
variable {m : Md} {gh : List GObj}
theorem RC_l1 (hl : m.nodes.length ≤ 1000) : ∀ k i, i + k = m.nodes.length →
    runL pg f_ref_CheckModel_l1 ⟨[(1, .ptr false 0 0), (3, I (i : Int))], [mcells m], gh⟩ =
      if nodesE m.nodes i (m.nodes.drop i) = 0 then some (.normal, ⟨[(1, .ptr false 0 0)], [mcells m], gh⟩)
      else some (.ret, ⟨[(2, I (nodesE m.nodes i (m.nodes.drop i)))], [], gh⟩)
  | 0, i, h => by
    rw [List.drop_eq_nil_of_le (by omega), nodesE, if_pos rfl]
    have hlt : ¬ i < m.nodes.length := by omega
    refine (lp_exit (s1 := ?s1) (D_ref_CheckModel_b1_ok ?h1)).trans ?r1
    case h1 => simp [D_ref_CheckModel_b1, hlt]; rfl
    case r1 => simp [keep, stays]
  | k + 1, i, h => by
    have hlt : i < m.nodes.length := by omega
    have hltD : decide (i < m.nodes.length) = true := decide_eq_true hlt
    have e2 : IntKind.i64.wrap ((i : Int) + 1) = ((i + 1 : Nat) : Int) := by rw [wrap_id (by omega) (by omega)]; omega
    have hn := CheckNode_eq (l := m.nodes) (gh := gh) (idx := i) (List.getElem?_eq_getElem hlt) (by omega)
    rw [List.drop_eq_getElem_cons hlt, nodesE]
    generalize nodeE m.nodes (i : Int) m.nodes[i] = r at *
    by_cases he : r = 0
    · rw [if_pos he]
      refine lp_next (s1 := ⟨[(1, .ptr false 0 0), (3, I ((i + 1 : Nat) : Int))], [mcells m], gh⟩) (D_ref_CheckModel_b1_ok ?_) (RC_l1 hl k (i + 1) (by omega))
      simp [D_ref_CheckModel_b1, hltD, hn, he, e2]
    · rw [if_neg he, if_neg he]
      refine lp_ret (D_ref_CheckModel_b1_ok ?_)
      simp [D_ref_CheckModel_b1, hltD, hn, he]
theorem between_no (hl : m.nodes.length ≤ 1000) (n : Int) : callL pg 50 [I n, I 0, I (IntKind.i64.wrap ((m.nodes.length : Int) - 1))] gh = some (B (decide (isNo m.nodes n)), gh) := by
  have e : IntKind.i64.wrap ((m.nodes.length : Int) - 1) = (m.nodes.length : Int) - 1 := wrap_id (by omega) (by omega)
  rw [e, between_eq]
  have : decide (0 ≤ n ∧ n ≤ (m.nodes.length : Int) - 1) = decide (isNo m.nodes n) := decide_eq_decide.2 ⟨fun h => ⟨h.1, by omega⟩, fun h => ⟨h.1, by have := h.2; have := h.1; omega⟩⟩
  rw [this]
theorem RC_l3 {f : List Bool} {ps : List (Int × Int)} {k : Nat} (hf : f.length = m.nodes.length) (hl : m.nodes.length ≤ 1000) (hs : Sz ps.length) : ∀ n j, j + n = ps.length →
    runL pg f_ref_CheckModel_l3 ⟨[(1, .ptr false 0 0), (5, .sl false 1 (f.map B)), (6, I (k : Int)), (7, LP ps), (8, I (j : Int))], [mcells m], gh⟩ =
      if pairsE m.nodes f (decide (k = 0)) (ps.drop j) = 0 then some (.normal, ⟨[(1, .ptr false 0 0), (5, .sl false 1 (f.map B)), (6, I (k : Int))], [mcells m], gh⟩)
      else some (.ret, ⟨[(2, I (pairsE m.nodes f (decide (k = 0)) (ps.drop j)))], [], gh⟩)
  | 0, j, h => by
    rw [List.drop_eq_nil_of_le (by omega), pairsE, if_pos rfl]
    have hlt : ¬ j < ps.length := by omega
    refine (lp_exit (s1 := ?s1) (D_ref_CheckModel_b3_ok ?h1)).trans ?r1
    case h1 => simp only [D_ref_CheckModel_b3]; simp [hlt]; rfl
    case r1 => simp [keep, stays]
  | n + 1, j, h => by
    have hlt : j < ps.length := by omega
    have hltD : decide (j < ps.length) = true := decide_eq_true hlt
    have hltI : (j : Int) < (ps.length : Int) := by omega
    have e2 : IntKind.i64.wrap ((j : Int) + 1) = ((j + 1 : Nat) : Int) := wrap_nat (by simp only [Sz] at hs ⊢; omega)
    have hx : (ps.map andV)[j]? = some (andV ps[j]) := by simp [List.getElem?_eq_getElem hlt]
    rw [andV_def] at hx
    rw [List.drop_eq_getElem_cons hlt, pairsE]
    generalize ps[j] = p at *
    obtain ⟨a, b⟩ := p
    simp only at hx
    have hk0 : ((k : Int) == 0) = decide (k = 0) := by
      rw [beqI]; exact decide_eq_decide.2 (by omega)
    obtain ⟨ini, hini⟩ : ∃ ini, decide (k = 0) = ini := ⟨_, rfl⟩
    rw [hini] at hk0 ⊢
    have i1 := between_no (m := m) (gh := gh) hl a
    have i2 := between_no (m := m) (gh := gh) hl b
    have hNl : (m.nodes.map nodeV).length = m.nodes.length := by simp
    generalize hw : IntKind.i64.wrap ((m.nodes.length : Int) - 1) = w at *
    have hret : ∀ r, r ≠ 0 → pairE m.nodes f ini (a, b) = r → D_ref_CheckModel_b3 pg (.sl false 1 (f.map B)) k (LP ps) j (LN m.nodes) (LP m.inits) (LP m.nexts) (LI m.bads) (LI m.holds) gh = some (.ret, ⟨[(2, I r)], [], gh⟩) →
        runL pg f_ref_CheckModel_l3 ⟨[(1, .ptr false 0 0), (5, .sl false 1 (f.map B)), (6, I (k : Int)), (7, LP ps), (8, I (j : Int))], [mcells m], gh⟩ =
      if (if pairE m.nodes f ini (a, b) = 0 then pairsE m.nodes f ini (ps.drop (j + 1)) else pairE m.nodes f ini (a, b)) = 0 then some (.normal, ⟨[(1, .ptr false 0 0), (5, .sl false 1 (f.map B)), (6, I (k : Int))], [mcells m], gh⟩)
      else some (.ret, ⟨[(2, I (if pairE m.nodes f ini (a, b) = 0 then pairsE m.nodes f ini (ps.drop (j + 1)) else pairE m.nodes f ini (a, b)))], [], gh⟩) := by
      intro r hr he hD
      rw [he, if_neg hr, if_neg hr]
      exact lp_ret (D_ref_CheckModel_b3_ok hD)
    by_cases h1 : isNo m.nodes a
    · rw [decide_eq_true h1] at i1
      by_cases h2 : isNo m.nodes b
      · rw [decide_eq_true h2] at i2
        have n1 := node_at h1
        have n2 := node_at h2
        have z1 := h1.1
        have z2 := h2.1
        have hfr := fr_idx (f := f) (a := b) (by rw [hf]; exact h2.2)
        by_cases h3 : (m.nodes.getD a.toNat default).k = 3
        · by_cases h4 : wAt m.nodes a = wAt m.nodes b
          · by_cases h5 : ini = true ∧ f.getD b.toNat false = true
            · refine hret 4 (by decide) (by simp only [pairE]; rw [if_neg (by rintro (h | h | h) <;> contradiction), if_neg (fun h => h h4), if_pos h5]) ?_
              obtain ⟨rfl, h5⟩ := h5
              rw [h5] at hfr
              unfold wAt at h4
              generalize m.nodes.getD a.toNat default = d1 at *
              generalize m.nodes.getD b.toNat default = d2 at *
              rw [nodeV_def d1] at n1
              rw [nodeV_def d2] at n2
              have d3 : decide (d1.k = 3) = true := decide_eq_true h3
              simp only [D_ref_CheckModel_b3, hk0]
              simp [hltD, hx, hw, i1, i2, z1, z2, n1, n2, d3, h4, hfr, -List.getElem?_map]
            · have he : pairE m.nodes f ini (a, b) = 0 := by simp only [pairE]; rw [if_neg (by rintro (h | h | h) <;> contradiction), if_neg (fun h => h h4), if_neg h5]
              rw [he, if_pos rfl]
              refine lp_next (s1 := ⟨[(1, .ptr false 0 0), (5, .sl false 1 (f.map B)), (6, I (k : Int)), (7, LP ps), (8, I ((j + 1 : Nat) : Int))], [mcells m], gh⟩) (D_ref_CheckModel_b3_ok ?_) ?_
              · unfold wAt at h4
                generalize m.nodes.getD a.toNat default = d1 at *
                generalize m.nodes.getD b.toNat default = d2 at *
                rw [nodeV_def d1] at n1
                rw [nodeV_def d2] at n2
                have d3 : decide (d1.k = 3) = true := decide_eq_true h3
                simp only [D_ref_CheckModel_b3, hk0]
                cases ini with
                | true =>
                  have h5 : f.getD b.toNat false = false := by simpa using h5
                  rw [h5] at hfr
                  generalize f.map B = F at *
                  simp [hltD, hx, hw, i1, i2, z1, z2, n1, n2, d3, h4, hfr, e2, -List.getElem?_map]
                | false =>
                  generalize f.map B = F at *
                  simp [hltD, hx, hw, i1, i2, z1, z2, n1, n2, d3, h4, e2, -List.getElem?_map]
              · rw [← hini]
                exact RC_l3 hf hl hs n (j + 1) (by omega)
          · refine hret 1 (by decide) (by simp only [pairE]; rw [if_neg (by rintro (h | h | h) <;> contradiction), if_pos h4]) ?_
            unfold wAt at h4
            generalize m.nodes.getD a.toNat default = d1 at *
            generalize m.nodes.getD b.toNat default = d2 at *
            rw [nodeV_def d1] at n1
            rw [nodeV_def d2] at n2
            have d3 : decide (d1.k = 3) = true := decide_eq_true h3
            simp only [D_ref_CheckModel_b3, hk0]
            simp [hltD, hx, hw, i1, i2, z1, z2, n1, n2, d3, h4, -List.getElem?_map]
        · refine hret 5 (by decide) (by simp only [pairE]; rw [if_pos (.inr (.inr h3))]) ?_
          generalize m.nodes.getD a.toNat default = d1 at *
          rw [nodeV_def d1] at n1
          have d3 : decide (d1.k = 3) = false := decide_eq_false h3
          simp only [D_ref_CheckModel_b3, hk0]
          simp [hltD, hx, hw, i1, i2, z1, n1, d3, -List.getElem?_map]
      · rw [decide_eq_false h2] at i2
        refine hret 5 (by decide) (by simp only [pairE]; rw [if_pos (.inr (.inl h2))]) ?_
        simp only [D_ref_CheckModel_b3, hk0]
        simp [hltD, hx, hw, i1, i2, -List.getElem?_map]
    · rw [decide_eq_false h1] at i1
      refine hret 5 (by decide) (by simp only [pairE]; rw [if_pos (.inl h1)]) ?_
      simp only [D_ref_CheckModel_b3, hk0]
      simp [hltD, hx, hw, i1, -List.getElem?_map]
theorem RC_l6 {ps : List (Int × Int)} {k i : Nat} {s w : Int} (hs : Sz ps.length) (hi : ps[i]? = some (s, w)) : ∀ n j, j + n = i →
    runL pg f_ref_CheckModel_l6 ⟨[(1, .ptr false 0 0), (10, I (k : Int)), (11, LP ps), (12, I (i : Int)), (13, I (j : Int))], [mcells m], gh⟩ =
      if ((ps.take i).drop j).any (fun q => decide (s = q.1)) = true then some (.ret, ⟨[(2, I 6)], [], gh⟩)
      else some (.normal, ⟨[(1, .ptr false 0 0), (10, I (k : Int)), (11, LP ps), (12, I (i : Int))], [mcells m], gh⟩)
  | 0, j, h => by
    have hil := (List.getElem?_eq_some_iff.1 hi).1
    rw [List.drop_eq_nil_of_le (by simp; omega), List.any_nil, if_neg (by simp)]
    have hlt : ¬ (j : Int) < (i : Int) := by omega
    refine (lp_exit (s1 := ?s1) (D_ref_CheckModel_b6_ok ?h1)).trans ?r1
    case h1 => simp only [D_ref_CheckModel_b6, decide_eq_false hlt, br_false]; simp; rfl
    case r1 => simp [keep, stays]
  | n + 1, j, h => by
    have hil := (List.getElem?_eq_some_iff.1 hi).1
    have hlt : (j : Int) < (i : Int) := by omega
    have hltD : decide ((j : Int) < (i : Int)) = true := decide_eq_true hlt
    have e2 : IntKind.i64.wrap ((j : Int) + 1) = ((j + 1 : Nat) : Int) := wrap_nat (by simp only [Sz] at hs ⊢; omega)
    have hj : j < (ps.take i).length := by simp; omega
    have hx : (ps.map andV)[j]? = some (andV (ps.take i)[j]) := by simp [List.getElem?_eq_getElem (show j < ps.length by omega)]
    have hy : (ps.map andV)[i]? = some (andV (s, w)) := by simp [hi]
    rw [andV_def] at hx hy
    rw [List.drop_eq_getElem_cons hj, List.any_cons]
    generalize (ps.take i)[j] = q at *
    obtain ⟨a, b⟩ := q
    simp only at hx hy ⊢
    by_cases he : s = a
    · rw [decide_eq_true he, Bool.true_or, if_pos rfl]
      refine lp_ret (D_ref_CheckModel_b6_ok ?_)
      simp only [D_ref_CheckModel_b6, hltD]
      simp [hx, hy, he, -List.getElem?_map]
    · rw [decide_eq_false he, Bool.false_or]
      refine lp_next (s1 := ⟨[(1, .ptr false 0 0), (10, I (k : Int)), (11, LP ps), (12, I (i : Int)), (13, I ((j + 1 : Nat) : Int))], [mcells m], gh⟩) (D_ref_CheckModel_b6_ok ?_) (RC_l6 hs hi n (j + 1) (by omega))
      simp only [D_ref_CheckModel_b6, hltD]
      simp [hx, hy, he, e2, -List.getElem?_map]
theorem RC_l5 {ps : List (Int × Int)} {k : Nat} (hs : Sz ps.length) : ∀ n i, i + n = ps.length →
    runL pg f_ref_CheckModel_l5 ⟨[(1, .ptr false 0 0), (10, I (k : Int)), (11, LP ps), (12, I (i : Int))], [mcells m], gh⟩ =
      if dupF (ps.take i) (ps.drop i) = true then some (.ret, ⟨[(2, I 6)], [], gh⟩) else some (.normal, ⟨[(1, .ptr false 0 0), (10, I (k : Int))], [mcells m], gh⟩)
  | 0, i, h => by
    rw [List.drop_eq_nil_of_le (by omega), dupF, if_neg (by simp)]
    have hlt : ¬ i < ps.length := by omega
    refine (lp_exit (s1 := ?s1) (D_ref_CheckModel_b5_ok ?h1)).trans ?r1
    case h1 => simp only [D_ref_CheckModel_b5]; simp [hlt]; rfl
    case r1 => simp [keep, stays]
  | n + 1, i, h => by
    have hlt : i < ps.length := by omega
    have hltD : decide (i < ps.length) = true := decide_eq_true hlt
    have e2 : IntKind.i64.wrap ((i : Int) + 1) = ((i + 1 : Nat) : Int) := wrap_nat (by simp only [Sz] at hs ⊢; omega)
    have hg : ps[i]? = some (ps[i].1, ps[i].2) := List.getElem?_eq_getElem hlt
    have h6 := RC_l6 (m := m) (gh := gh) (k := k) hs hg i 0 (by omega)
    rw [List.drop_zero] at h6
    simp only [Int.natCast_zero] at h6
    have htk : ps.take i ++ [ps[i]] = ps.take (i + 1) := by simp
    have hPl : (ps.map andV).length = ps.length := by simp
    rw [List.drop_eq_getElem_cons hlt, dupF, htk]
    have k6 : runL pg f_ref_CheckModel_k6 ⟨[(1, .ptr false 0 0), (10, I (k : Int)), (11, LP ps), (12, I (i : Int))], [mcells m], gh⟩ = some (.normal, ⟨[(1, .ptr false 0 0), (10, I (k : Int)), (11, LP ps), (12, I ((i + 1 : Nat) : Int))], [mcells m], gh⟩) := by
      refine D_ref_CheckModel_k6_ok ?_
      simp [D_ref_CheckModel_k6, e2]
    have hrec := RC_l5 (k := k) hs n (i + 1) (by omega)
    cases hd : (ps.take i).any (fun q => decide (ps[i].1 = q.1)) with
    | true =>
      rw [hd, if_pos rfl] at h6
      rw [Bool.true_or, if_pos rfl]
      refine lp_ret (D_ref_CheckModel_b5_ok ?_)
      simp only [mcells] at *
      simp only [D_ref_CheckModel_b5]
      simp [hltD, h6]
    | false =>
      rw [hd, if_neg (by simp)] at h6
      rw [Bool.false_or]
      refine lp_next (s1 := ⟨[(1, .ptr false 0 0), (10, I (k : Int)), (11, LP ps), (12, I ((i + 1 : Nat) : Int))], [mcells m], gh⟩) (D_ref_CheckModel_b5_ok ?_) hrec
      simp only [mcells] at *
      simp only [D_ref_CheckModel_b5]
      simp [hltD, h6, k6]
theorem RC_l7 {xs : List Int} (hl : m.nodes.length ≤ 1000) (hs : Sz xs.length) : ∀ n i, i + n = xs.length →
    runL pg f_ref_CheckModel_l7 ⟨[(1, .ptr false 0 0), (14, .sl true 1 (xs.map I)), (15, I (i : Int))], [mcells m], gh⟩ =
      if (xs.drop i).any (fun a => !decide (isNo m.nodes a)) = true then some (.ret, ⟨[(2, I 5)], [], gh⟩) else some (.normal, ⟨[(1, .ptr false 0 0), (14, .sl true 1 (xs.map I))], [mcells m], gh⟩)
  | 0, i, h => by
    rw [List.drop_eq_nil_of_le (by omega), List.any_nil, if_neg (by simp)]
    have hlt : ¬ i < xs.length := by omega
    refine (lp_exit (s1 := ?s1) (D_ref_CheckModel_b7_ok ?h1)).trans ?r1
    case h1 => simp only [D_ref_CheckModel_b7]; simp [hlt]; rfl
    case r1 => simp [keep, stays]
  | n + 1, i, h => by
    have hlt : i < xs.length := by omega
    have hltD : decide (i < xs.length) = true := decide_eq_true hlt
    have e2 : IntKind.i64.wrap ((i : Int) + 1) = ((i + 1 : Nat) : Int) := wrap_nat (by simp only [Sz] at hs ⊢; omega)
    have hg : (xs.map I)[i]? = some (I xs[i]) := by simp [List.getElem?_eq_getElem hlt]
    have hb := between_no (m := m) (gh := gh) hl xs[i]
    generalize hw : IntKind.i64.wrap ((m.nodes.length : Int) - 1) = w at *
    have hrec := RC_l7 hl hs n (i + 1) (by omega)
    rw [List.drop_eq_getElem_cons hlt, List.any_cons]
    generalize xs[i] = a at *
    by_cases hn : isNo m.nodes a
    · rw [decide_eq_true hn] at hb ⊢
      rw [Bool.not_true, Bool.false_or]
      refine lp_next (s1 := ⟨[(1, .ptr false 0 0), (14, .sl true 1 (xs.map I)), (15, I ((i + 1 : Nat) : Int))], [mcells m], gh⟩) (D_ref_CheckModel_b7_ok ?_) hrec
      simp only [D_ref_CheckModel_b7]
      simp [hltD, hg, hw, hb, e2, -List.getElem?_map]
    · rw [decide_eq_false hn] at hb ⊢
      rw [Bool.not_false, Bool.true_or, if_pos rfl]
      refine lp_ret (D_ref_CheckModel_b7_ok ?_)
      simp only [D_ref_CheckModel_b7]
      simp [hltD, hg, hw, hb, -List.getElem?_map]
theorem RC_l8 {xs : List Int} (hn : ∀ a ∈ xs, isNo m.nodes a) (hs : Sz xs.length) : ∀ n i, i + n = xs.length →
    runL pg f_ref_CheckModel_l8 ⟨[(1, .ptr false 0 0), (14, .sl true 1 (xs.map I)), (16, I (i : Int))], [mcells m], gh⟩ =
      if (xs.drop i).any (fun a => !decide (wAt m.nodes a = 1)) = true then some (.ret, ⟨[(2, I 1)], [], gh⟩) else some (.normal, ⟨[], [], gh⟩)
  | 0, i, h => by
    rw [List.drop_eq_nil_of_le (by omega), List.any_nil, if_neg (by simp)]
    have hlt : ¬ i < xs.length := by omega
    refine (lp_exit (s1 := ?s1) (D_ref_CheckModel_b8_ok ?h1)).trans ?r1
    case h1 => simp only [D_ref_CheckModel_b8]; simp [hlt]; rfl
    case r1 => simp [keep]
  | n + 1, i, h => by
    have hlt : i < xs.length := by omega
    have hltD : decide (i < xs.length) = true := decide_eq_true hlt
    have e2 : IntKind.i64.wrap ((i : Int) + 1) = ((i + 1 : Nat) : Int) := wrap_nat (by simp only [Sz] at hs ⊢; omega)
    have hg : (xs.map I)[i]? = some (I xs[i]) := by simp [List.getElem?_eq_getElem hlt]
    have hno := hn _ (List.getElem_mem hlt)
    have hn1 := node_at hno
    have h0 := hno.1
    have hrec := RC_l8 hn hs n (i + 1) (by omega)
    rw [List.drop_eq_getElem_cons hlt, List.any_cons]
    generalize xs[i] = a at *
    unfold wAt at hrec ⊢
    generalize m.nodes.getD a.toNat default = d at *
    rw [nodeV_def d] at hn1
    by_cases hw : d.w = 1
    · rw [decide_eq_true hw, Bool.not_true, Bool.false_or]
      refine lp_next (s1 := ⟨[(1, .ptr false 0 0), (14, .sl true 1 (xs.map I)), (16, I ((i + 1 : Nat) : Int))], [mcells m], gh⟩) (D_ref_CheckModel_b8_ok ?_) hrec
      simp only [D_ref_CheckModel_b8]
      simp [hltD, hg, h0, hn1, hw, e2, -List.getElem?_map]
    · rw [decide_eq_false hw, Bool.not_false, Bool.true_or, if_pos rfl]
      refine lp_ret (D_ref_CheckModel_b8_ok ?_)
      simp only [D_ref_CheckModel_b8]
      simp [hltD, hg, h0, hn1, hw, -List.getElem?_map]
end
end Go.Lw
end

/-! Models: the whole check (the document). -/
section
namespace Go.Lw
open Go
section
variable {m : Md} {gh : List GObj}
theorem RC_l2 {f : List Bool} (hf : f.length = m.nodes.length) (hl : m.nodes.length ≤ 1000) (h1 : Sz m.inits.length) (h2 : Sz m.nexts.length) :
    runL pg f_ref_CheckModel_l2 ⟨[(1, .ptr false 0 0), (5, .sl false 1 (f.map B)), (6, I 0)], [mcells m], gh⟩ =
      if pairsE m.nodes f true m.inits ≠ 0 then some (.ret, ⟨[(2, I (pairsE m.nodes f true m.inits))], [], gh⟩)
      else if pairsE m.nodes f false m.nexts ≠ 0 then some (.ret, ⟨[(2, I (pairsE m.nodes f false m.nexts))], [], gh⟩)
      else some (.normal, ⟨[(1, .ptr false 0 0)], [mcells m], gh⟩) := by
  have l1 := RC_l3 (gh := gh) (m := m) (ps := m.inits) (k := 0) hf hl h1 m.inits.length 0 (by omega)
  have l2 := RC_l3 (gh := gh) (m := m) (ps := m.nexts) (k := 1) hf hl h2 m.nexts.length 0 (by omega)
  rw [List.drop_zero] at l1 l2
  simp only [Int.natCast_zero, decide_true] at l1 l2
  rw [show decide (1 = 0) = false from rfl] at l2
  simp only [Int.natCast_one] at l1 l2
  have w1 : IntKind.i64.wrap (0 + 1) = 1 := by decide
  have w2 : IntKind.i64.wrap (1 + 1) = 2 := by decide
  generalize f.map B = F at *
  have k3 : ∀ x, runL pg f_ref_CheckModel_k3 ⟨[(1, .ptr false 0 0), (5, .sl false 1 F), (6, I x)], [mcells m], gh⟩ = some (.normal, ⟨[(1, .ptr false 0 0), (5, .sl false 1 F), (6, I (IntKind.i64.wrap (x + 1)))], [mcells m], gh⟩) := fun x => by
    refine D_ref_CheckModel_k3_ok ?_
    simp [D_ref_CheckModel_k3]
  have k2 : ∀ x ps e s, runL pg f_ref_CheckModel_l3 ⟨[(1, .ptr false 0 0), (5, .sl false 1 F), (6, I x), (7, LP ps), (8, I 0)], [mcells m], gh⟩ = some (e, s) → runL pg f_ref_CheckModel_k2 ⟨[(1, .ptr false 0 0), (5, .sl false 1 F), (6, I x), (7, LP ps)], [mcells m], gh⟩ = some (e, s) := fun x ps e s h => by
    refine D_ref_CheckModel_k2_ok ?_
    simp only [mcells] at *
    simp [D_ref_CheckModel_k2, h]
  by_cases e1 : pairsE m.nodes f true m.inits = 0
  · rw [if_pos e1] at l1
    rw [if_neg (fun h => h e1)]
    have k30 := k3 0
    rw [w1] at k30
    have k20 := k2 _ _ _ _ l1
    refine lp_next (s1 := ⟨[(1, .ptr false 0 0), (5, .sl false 1 F), (6, I 1)], [mcells m], gh⟩) (D_ref_CheckModel_b2_ok (by
      simp only [mcells] at *
      simp [D_ref_CheckModel_b2, k20, k30])) ?_
    by_cases e2 : pairsE m.nodes f false m.nexts = 0
    · rw [if_pos e2] at l2
      rw [if_neg (fun h => h e2)]
      have k31 := k3 1
      rw [w2] at k31
      have k21 := k2 _ _ _ _ l2
      refine lp_next (s1 := ⟨[(1, .ptr false 0 0), (5, .sl false 1 F), (6, I 2)], [mcells m], gh⟩) (D_ref_CheckModel_b2_ok (by
        simp only [mcells] at *
        simp [D_ref_CheckModel_b2, k21, k31])) ?_
      refine (lp_exit (s1 := ?s1) (D_ref_CheckModel_b2_ok ?h1)).trans ?r1
      case h1 => simp [D_ref_CheckModel_b2]; rfl
      case r1 => simp [keep, stays]
    · rw [if_neg e2] at l2
      rw [if_pos e2]
      have k21 := k2 _ _ _ _ l2
      refine lp_ret (D_ref_CheckModel_b2_ok ?_)
      simp only [mcells] at *
      simp [D_ref_CheckModel_b2, k21]
  · rw [if_neg e1] at l1
    rw [if_pos e1]
    have k20 := k2 _ _ _ _ l1
    refine lp_ret (D_ref_CheckModel_b2_ok ?_)
    simp only [mcells] at *
    simp [D_ref_CheckModel_b2, k20]
theorem RC_l4 (h1 : Sz m.inits.length) (h2 : Sz m.nexts.length) :
    runL pg f_ref_CheckModel_l4 ⟨[(1, .ptr false 0 0), (10, I 0)], [mcells m], gh⟩ =
      if twice m.inits ∨ twice m.nexts then some (.ret, ⟨[(2, I 6)], [], gh⟩) else some (.normal, ⟨[(1, .ptr false 0 0)], [mcells m], gh⟩) := by
  have l1 := RC_l5 (gh := gh) (m := m) (ps := m.inits) (k := 0) h1 m.inits.length 0 (by omega)
  have l2 := RC_l5 (gh := gh) (m := m) (ps := m.nexts) (k := 1) h2 m.nexts.length 0 (by omega)
  rw [List.drop_zero, List.take_zero, dupF_twice] at l1 l2
  simp only [Int.natCast_zero, Int.natCast_one, decide_eq_true_eq] at l1 l2
  have w1 : IntKind.i64.wrap (0 + 1) = 1 := by decide
  have w2 : IntKind.i64.wrap (1 + 1) = 2 := by decide
  have k7 : ∀ x, runL pg f_ref_CheckModel_k7 ⟨[(1, .ptr false 0 0), (10, I x)], [mcells m], gh⟩ = some (.normal, ⟨[(1, .ptr false 0 0), (10, I (IntKind.i64.wrap (x + 1)))], [mcells m], gh⟩) := fun x => by
    refine D_ref_CheckModel_k7_ok ?_
    simp [D_ref_CheckModel_k7]
  have k5 : ∀ x ps e s, runL pg f_ref_CheckModel_l5 ⟨[(1, .ptr false 0 0), (10, I x), (11, LP ps), (12, I 0)], [mcells m], gh⟩ = some (e, s) → runL pg f_ref_CheckModel_k5 ⟨[(1, .ptr false 0 0), (10, I x), (11, LP ps)], [mcells m], gh⟩ = some (e, s) := fun x ps e s h => by
    refine D_ref_CheckModel_k5_ok ?_
    simp only [mcells] at *
    simp [D_ref_CheckModel_k5, h]
  by_cases t1 : twice m.inits
  · rw [if_pos t1] at l1
    rw [if_pos (.inl t1)]
    have k50 := k5 _ _ _ _ l1
    refine lp_ret (D_ref_CheckModel_b4_ok ?_)
    simp only [mcells] at *
    simp [D_ref_CheckModel_b4, k50]
  · rw [if_neg t1] at l1
    have k50 := k5 _ _ _ _ l1
    have k70 := k7 0
    rw [w1] at k70
    refine lp_next (s1 := ⟨[(1, .ptr false 0 0), (10, I 1)], [mcells m], gh⟩) (D_ref_CheckModel_b4_ok (by
      simp only [mcells] at *
      simp [D_ref_CheckModel_b4, k50, k70])) ?_
    by_cases t2 : twice m.nexts
    · rw [if_pos t2] at l2
      rw [if_pos (.inr t2)]
      have k51 := k5 _ _ _ _ l2
      refine lp_ret (D_ref_CheckModel_b4_ok ?_)
      simp only [mcells] at *
      simp [D_ref_CheckModel_b4, k51]
    · rw [if_neg t2] at l2
      rw [if_neg (by rintro (h | h) <;> contradiction)]
      have k51 := k5 _ _ _ _ l2
      have k71 := k7 1
      rw [w2] at k71
      refine lp_next (s1 := ⟨[(1, .ptr false 0 0), (10, I 2)], [mcells m], gh⟩) (D_ref_CheckModel_b4_ok (by
        simp only [mcells] at *
        simp [D_ref_CheckModel_b4, k51, k71])) ?_
      refine (lp_exit (s1 := ?s1) (D_ref_CheckModel_b4_ok ?h1)).trans ?r1
      case h1 => simp [D_ref_CheckModel_b4]; rfl
      case r1 => simp [keep, stays]
def marksR (m : Md) : Int :=
  if m.nexts.length ≠ (kindL m.nodes 3).length then 5 else if (m.bads ++ m.holds).any (fun a => !decide (isNo m.nodes a)) then 5
  else if (m.bads ++ m.holds).any (fun a => !decide (wAt m.nodes a = 1)) then 1 else 0
theorem RC_k8 (hl : m.nodes.length ≤ 1000) (h1 : m.bads.length ≤ 100) (h2 : m.holds.length ≤ 100) :
    runL pg f_ref_CheckModel_k8 ⟨[(1, .ptr false 0 0)], [mcells m], gh⟩ = some (.ret, ⟨[(2, I (marksR m))], [], gh⟩) := by
  have ho := RNodes_eq (m := m) (gh := gh) (kind := 3) (by omega)
  rw [modelV_def] at ho
  have hm : maxBytes = 140737488355328 := rfl
  have hm1 : m.bads.length * 8 ≤ maxBytes := by omega
  have hm2 : (m.bads.length + m.holds.length) * 8 ≤ maxBytes := by omega
  have hsz : Sz (m.bads ++ m.holds).length := by simp only [Sz, List.length_append]; omega
  have l7 := RC_l7 (m := m) (gh := gh) (xs := m.bads ++ m.holds) hl hsz (m.bads ++ m.holds).length 0 (by omega)
  have l8 : (∀ a ∈ m.bads ++ m.holds, isNo m.nodes a) → _ := fun hn => RC_l8 (m := m) (gh := gh) (xs := m.bads ++ m.holds) hn hsz (m.bads ++ m.holds).length 0 (by omega)
  rw [List.drop_zero] at l7
  rw [List.drop_zero] at l8
  simp only [Int.natCast_zero] at l7 l8
  have hnb : (m.bads ++ m.holds).any (fun a => !decide (isNo m.nodes a)) = false → ∀ a ∈ m.bads ++ m.holds, isNo m.nodes a := fun h a ha => by
    have := List.any_eq_false.1 h a ha
    simpa using this
  unfold marksR
  generalize (m.bads ++ m.holds).any (fun a => !decide (isNo m.nodes a)) = p1 at *
  generalize (m.bads ++ m.holds).any (fun a => !decide (wAt m.nodes a = 1)) = p2 at *
  generalize hK : kindL m.nodes 3 = K at *
  have hKl : (K.map I).length = K.length := by simp
  have hXl : (m.nexts.map andV).length = m.nexts.length := by simp
  have hBl : (m.bads.map I).length = m.bads.length := by simp
  have hHl : (m.holds.map I).length = m.holds.length := by simp
  have k10 := D_ref_CheckModel_k10_ok (pg := pg) (gh := gh) (e := .ret) (s := ⟨[(2, I 0)], [], gh⟩) rfl
  have k9r : ∀ M s, runL pg f_ref_CheckModel_l8 ⟨[(1, .ptr false 0 0), (14, .sl true 1 M), (16, I 0)], [mcells m], gh⟩ = some (.ret, s) → runL pg f_ref_CheckModel_k9 ⟨[(1, .ptr false 0 0), (14, .sl true 1 M)], [mcells m], gh⟩ = some (.ret, s) := fun M s h => by
    simp only [mcells] at *
    refine D_ref_CheckModel_k9_ok ?_
    simp [D_ref_CheckModel_k9, h]
  have k9n : ∀ M, runL pg f_ref_CheckModel_l8 ⟨[(1, .ptr false 0 0), (14, .sl true 1 M), (16, I 0)], [mcells m], gh⟩ = some (.normal, ⟨[], [], gh⟩) → runL pg f_ref_CheckModel_k9 ⟨[(1, .ptr false 0 0), (14, .sl true 1 M)], [mcells m], gh⟩ = some (.ret, ⟨[(2, I 0)], [], gh⟩) := fun M h => by
    simp only [mcells] at *
    refine D_ref_CheckModel_k9_ok ?_
    simp [D_ref_CheckModel_k9, h, k10]
  refine D_ref_CheckModel_k8_ok ?_
  simp only [List.map_append] at l7 l8
  simp only [LI, mcells] at *
  generalize m.bads.map I = M1 at *
  generalize m.holds.map I = M2 at *
  generalize K.map I = K' at *
  generalize m.nexts.map andV = X' at *
  by_cases e1 : m.nexts.length = K.length
  · rw [if_neg (fun h => h e1)]
    cases p1 with
    | true =>
      rw [if_pos rfl] at l7 ⊢
      simp [D_ref_CheckModel_k8, ho, hKl, hXl, e1, hBl, hHl, hm1, hm2, l7]
    | false =>
      rw [if_neg (by simp)] at l7 ⊢
      have l8 := l8 (hnb rfl)
      cases p2 with
      | true =>
        rw [if_pos rfl] at l8 ⊢
        have k9 := k9r _ _ l8
        simp [D_ref_CheckModel_k8, ho, hKl, hXl, e1, hBl, hHl, hm1, hm2, l7, k9]
      | false =>
        rw [if_neg (by simp)] at l8 ⊢
        have k9 := k9n _ l8
        simp [D_ref_CheckModel_k8, ho, hKl, hXl, e1, hBl, hHl, hm1, hm2, l7, k9]
  · rw [if_pos e1]
    have e1' : ¬ (m.nexts.length : Int) = (K.length : Int) := by omega
    simp [D_ref_CheckModel_k8, ho, hKl, hXl, e1']
theorem marksR_eq {f : List Bool} (h : pairsAll m f = 0) : marksR m = marksE m := by
  unfold pairsAll at h
  split at h
  · contradiction
  split at h
  · contradiction
  rename_i h1 h2
  split at h
  · contradiction
  rename_i h3
  have hd : (m.nexts.map (·.1)).Nodup := by
    have := fun h => h3 (.inr h)
    unfold twice at this
    exact Classical.byContradiction this
  have hz : ∀ (l : List (Int × Int)), pairsE m.nodes f false l = 0 → ∀ p ∈ l, p.1 ∈ kindL m.nodes 3 := by
    intro l
    induction l with
    | nil => intro _ p hp; simp at hp
    | cons q l ih =>
      intro hq p hp
      rw [pairsE] at hq
      split at hq
      · rename_i hq0
        rcases List.mem_cons.1 hp with rfl | hp
        · unfold pairE at hq0
          split at hq0
          · contradiction
          rename_i hn
          have hi : isNo m.nodes p.1 := Classical.byContradiction fun h => hn (.inl h)
          have hk : (m.nodes.getD p.1.toNat default).k = 3 := Classical.byContradiction fun h => hn (.inr (.inr h))
          refine kindF_mem.2 ⟨p.1.toNat, hi.2, ?_, ?_⟩
          · have := hi.1; omega
          · rw [List.getD_eq_getElem?_getD, List.getElem?_eq_getElem hi.2] at hk
            rw [List.getElem?_eq_getElem hi.2]
            simpa using hk
        · exact ih hq p hp
      · contradiction
  have hle : m.nexts.length ≤ (kindL m.nodes 3).length := by
    have := List.Nodup.length_le_of_subset hd (l₂ := kindL m.nodes 3) (fun a ha => by
      obtain ⟨p, hp, rfl⟩ := List.mem_map.1 ha
      exact hz _ (by simpa using h2) p hp)
    simpa using this
  unfold marksR marksE
  by_cases he : m.nexts.length = (kindL m.nodes 3).length
  · rw [if_neg (c := m.nexts.length ≠ _) (fun h => h he), if_neg (c := m.nexts.length < _) (by omega)]
  · rw [if_pos he, if_pos (by omega)]
theorem CheckModel_eq (h1 : Sz m.inits.length) (h2 : Sz m.nexts.length) : callL pg 36 [modelV m] gh = some (I (checkE m), gh) := by
  unfold checkE
  have hNl : (m.nodes.map nodeV).length = m.nodes.length := by simp
  have hBl : (m.bads.map I).length = m.bads.length := by simp
  have hHl : (m.holds.map I).length = m.holds.length := by simp
  rw [modelV_def]
  by_cases c1 : m.nodes.length > 80 ∨ m.bads.length > 8 ∨ m.holds.length > 8
  · rw [if_pos c1]
    refine callL_fn (fn := f_ref_CheckModel) (s := ⟨[(2, I 2)], [], gh⟩) rfl rfl (D_ref_CheckModel_0_ok ?h1) ?r1
    case r1 => simp [finish, results, f_ref_CheckModel, resOfs, resOf, resOk]
    case h1 =>
      by_cases d1 : (80 : Int) < (m.nodes.length : Int)
      · simp [D_ref_CheckModel_0, d1]
      · by_cases d2 : (8 : Int) < (m.bads.length : Int)
        · simp [D_ref_CheckModel_0, d1, d2]
        · have d3 : (8 : Int) < (m.holds.length : Int) := by omega
          simp [D_ref_CheckModel_0, d1, d2, d3]
  · rw [if_neg c1]
    have d1 : ¬ (80 : Int) < (m.nodes.length : Int) := by omega
    have d2 : ¬ (8 : Int) < (m.bads.length : Int) := by omega
    have d3 : ¬ (8 : Int) < (m.holds.length : Int) := by omega
    have hl := RC_l1 (m := m) (gh := gh) (by omega) m.nodes.length 0 (by omega)
    rw [List.drop_zero] at hl
    simp only [Int.natCast_zero, mcells] at hl
    by_cases hn : nodesE m.nodes 0 m.nodes = 0
    · rw [if_neg (fun h => h hn)]
      rw [if_pos hn] at hl
      have hb2 := RBits_eq (m := m) (gh := gh) (kind := 2) (by omega)
      have hb3 := RBits_eq (m := m) (gh := gh) (kind := 3) (by omega)
      have hlen := hangs_eq (m := m) (gh := gh) (ahead_of hn) (by omega)
      rw [modelV_def] at hb2 hb3 hlen
      have hf : (hangF [] m.nodes).length = m.nodes.length := by simpa using hangF_len [] m.nodes
      have l2 := RC_l2 (gh := gh) hf (by omega) h1 h2
      have l4 := RC_l4 (m := m) (gh := gh) h1 h2
      have k8 := RC_k8 (m := m) (gh := gh) (by omega) (by omega) (by omega)
      have hme := marksR_eq (m := m) (f := hangF [] m.nodes)
      unfold pairsAll at hme ⊢
      simp only [mcells] at *
      generalize (hangF [] m.nodes).map B = F at *
      generalize pairsE m.nodes (hangF [] m.nodes) true m.inits = r1 at *
      generalize pairsE m.nodes (hangF [] m.nodes) false m.nexts = r2 at *
      by_cases hbt : bitsK m.nodes 2 > 6 ∨ bitsK m.nodes 3 > 10
      · rw [if_pos hbt]
        have k1 : runL pg f_ref_CheckModel_k1 ⟨[(1, .ptr false 0 0)], [[LN m.nodes, LP m.inits, LP m.nexts, LI m.bads, LI m.holds]], gh⟩ = some (.ret, ⟨[(2, I 2)], [], gh⟩) := by
          refine D_ref_CheckModel_k1_ok ?_
          by_cases b1 : 6 < bitsK m.nodes 2
          · simp [D_ref_CheckModel_k1, hb2, b1]
          · have b2 : 10 < bitsK m.nodes 3 := by omega
            simp [D_ref_CheckModel_k1, hb2, hb3, b1, b2]
        refine callL_fn (fn := f_ref_CheckModel) (s := ⟨[(2, I 2)], [], gh⟩) rfl rfl (D_ref_CheckModel_0_ok ?h2) ?r2
        case r2 => simp [finish, results, f_ref_CheckModel, resOfs, resOf, resOk]
        case h2 => simp [D_ref_CheckModel_0, d1, d2, d3, hl, k1]
      · rw [if_neg hbt]
        have b1 : ¬ 6 < bitsK m.nodes 2 := by omega
        have b2 : ¬ 10 < bitsK m.nodes 3 := by omega
        have fin : ∀ r, runL pg f_ref_CheckModel_k1 ⟨[(1, .ptr false 0 0)], [[LN m.nodes, LP m.inits, LP m.nexts, LI m.bads, LI m.holds]], gh⟩ = some (.ret, ⟨[(2, I r)], [], gh⟩) → callL pg 36 [.agg [LN m.nodes, LP m.inits, LP m.nexts, LI m.bads, LI m.holds]] gh = some (I r, gh) := fun r k1 => by
          refine callL_fn (fn := f_ref_CheckModel) (s := ⟨[(2, I r)], [], gh⟩) rfl rfl (D_ref_CheckModel_0_ok ?h3) ?r3
          case r3 => simp [finish, results, f_ref_CheckModel, resOfs, resOf, resOk]
          case h3 => simp [D_ref_CheckModel_0, d1, d2, d3, hl, k1]
        by_cases e1 : r1 = 0
        · rw [if_neg (fun h => h e1)] at l2
          by_cases e2 : r2 = 0
          · rw [if_neg (fun h => h e2)] at l2
            by_cases ht : twice m.inits ∨ twice m.nexts
            · rw [if_pos ht] at l4
              have k4 : runL pg f_ref_CheckModel_k4 ⟨[(1, .ptr false 0 0)], [[LN m.nodes, LP m.inits, LP m.nexts, LI m.bads, LI m.holds]], gh⟩ = some (.ret, ⟨[(2, I 6)], [], gh⟩) := by
                refine D_ref_CheckModel_k4_ok ?_
                simp [D_ref_CheckModel_k4, l4]
              simp only [e1, e2, ht, if_true, ne_eq, not_true, if_false]
              refine fin 6 (D_ref_CheckModel_k1_ok ?_)
              simp [D_ref_CheckModel_k1, hb2, hb3, b1, b2, hlen, l2, k4]
            · rw [if_neg ht] at l4
              have k4 : runL pg f_ref_CheckModel_k4 ⟨[(1, .ptr false 0 0)], [[LN m.nodes, LP m.inits, LP m.nexts, LI m.bads, LI m.holds]], gh⟩ = some (.ret, ⟨[(2, I (marksR m))], [], gh⟩) := by
                refine D_ref_CheckModel_k4_ok ?_
                simp [D_ref_CheckModel_k4, l4, k8]
              simp only [e1, e2, ht, if_true, ne_eq, not_true, if_false] at hme ⊢
              rw [← hme trivial]
              refine fin _ (D_ref_CheckModel_k1_ok ?_)
              simp [D_ref_CheckModel_k1, hb2, hb3, b1, b2, hlen, l2, k4]
          · rw [if_pos e2] at l2
            simp only [e1, e2, ne_eq, not_true, not_false_iff, if_false, if_true]
            refine fin _ (D_ref_CheckModel_k1_ok ?_)
            simp [D_ref_CheckModel_k1, hb2, hb3, b1, b2, hlen, l2]
        · rw [if_pos e1] at l2
          simp only [e1, ne_eq, not_true, not_false_iff, if_true]
          refine fin _ (D_ref_CheckModel_k1_ok ?_)
          simp [D_ref_CheckModel_k1, hb2, hb3, b1, b2, hlen, l2]
    · rw [if_pos hn]
      rw [if_neg hn] at hl
      generalize nodesE m.nodes 0 m.nodes = r at *
      refine callL_fn (fn := f_ref_CheckModel) (s := ⟨[(2, I r)], [], gh⟩) rfl rfl (D_ref_CheckModel_0_ok ?h5) ?r5
      case r5 => simp [finish, results, f_ref_CheckModel, resOfs, resOf, resOk]
      case h5 => simp [D_ref_CheckModel_0, d1, d2, d3, hl]
end
end Go.Lw
end

/-! What the code of function ref_SameInts comes to, piece by piece. Written by program (dprint.py). -/
section
set_option maxRecDepth 10000
set_option maxHeartbeats 4000000
namespace Go.Lw
open Go
noncomputable section
variable {pg : Prg} {gh : List GObj} {e : IExit} {s : St}
def an_ref_SameInts : Tr := (tI 13 (tI 7 (tB 4 (tO 1 (uO 0) .nil) (tO 6 (uI 5) .nil)) (tB 10 (tI 9 (uO 8) .nil) (tO 12 (uI 11) .nil))) (tI 20 (tI 16 (tI 15 (uB 14) .nil) (tI 18 (uO 17) .nil)) (tI 24 (tI 22 (uO 21) .nil) (uB 25))))
def D_ref_SameInts_b1 (pg : Prg) (v0 v1 : PV) (x5 : Int) (gh : List GObj) : DR := isC (degr v0) (lenS (degr (degr v0)) fun n1 => stK 0 v0 (stK 0 v1 (
  br 14 (decide (x5 < (n1 : Int))) (isC (degr v0) (
  idX 1 none (degr (degr v0)) x5 fun p2 =>
  ldX [] gh false 1 (degr p2) fun v3 => unI .i64 v3 fun n4 => isC (degr v1) (
  idX 1 none (degr (degr v1)) x5 fun p5 =>
  ldX [] gh false 1 (degr p5) fun v6 => unI .i64 v6 fun n7 => stK 0 v0 (stK 0 v1 (
  br 25 (n4 != n7) (some (.ret, ⟨[(4, B false)], [], gh⟩)) (stK 0 v0 (stK 0 v1 (stK 0 v0 (stK 0 v1 (some (.normal, ⟨[(0, v0), (1, v1), (5, (I (IntKind.i64.wrap (x5 + 1))))], [], gh⟩))))))))))) (some ((.exit 0), ⟨[(0, v0), (1, v1), (5, I x5), (14, (B (decide (x5 < (n1 : Int)))))], [], gh⟩)))))
theorem D_ref_SameInts_b1_ok {v0 v1 : PV} {x5 : Int} (h : D_ref_SameInts_b1 pg v0 v1 x5 gh = some (e, s)) : runL pg f_ref_SameInts_b1 ⟨[(0, v0), (1, v1), (5, I x5)], [], gh⟩ = some (e, s) :=
  runX_ok an_ref_SameInts (Eq.trans (by kernel_rfl) h)
def D_ref_SameInts_k1 (pg : Prg)  (gh : List GObj) : DR := some (.ret, ⟨[(4, B true)], [], gh⟩)
theorem D_ref_SameInts_k1_ok  (h : D_ref_SameInts_k1 pg  gh = some (e, s)) : runL pg f_ref_SameInts_k1 ⟨[], [], gh⟩ = some (e, s) :=
  runX_ok an_ref_SameInts (Eq.trans (by kernel_rfl) h)
def D_ref_SameInts_0 (pg : Prg) (v0 v1 : PV) (gh : List GObj) : DR := stK 0 v0 (stK 0 v1 (isC (degr v0) (lenS (degr (degr v0)) fun n1 => isC (degr v1) (lenS (degr (degr v1)) fun n2 => stK 0 v0 (stK 0 v1 (
  br 10 ((n1 : Int) != (n2 : Int)) (some (.ret, ⟨[(4, B false)], [], gh⟩)) (stK 0 v0 (stK 0 v1 (
  kR (runL pg f_ref_SameInts_l1 ⟨[(0, v0), (1, v1), (5, I 0)], [], gh⟩) (fun e s => nx e s (fun e s => some (e, s)) fun s => kR (runL pg f_ref_SameInts_k1 s) (fun e s => some (e, s))))))))))))
theorem D_ref_SameInts_0_ok {v0 v1 : PV} (h : D_ref_SameInts_0 pg v0 v1 gh = some (e, s)) : runL pg f_ref_SameInts_0 ⟨[(0, v0), (1, v1)], [], gh⟩ = some (e, s) :=
  runX_ok an_ref_SameInts (Eq.trans (by kernel_rfl) h)
end
end Go.Lw
end

/-! Clauses: what the document makes and checks. -/
section
namespace Go.Lw
open Go
section
variable {ins : Int} {ands : List (Int × Int)} {gh : List GObj}
theorem SameInts_loop {v : List Int} (hs : Sz v.length) : ∀ k i, i + k = v.length →
    runL pg f_ref_SameInts_l1 ⟨[(0, LI v), (1, LI v), (5, I (i : Int))], [], gh⟩ = some (.normal, ⟨[], [], gh⟩)
  | 0, i, h => by
    have hlt : ¬ i < v.length := by omega
    refine (lp_exit (s1 := ?s1) (D_ref_SameInts_b1_ok ?h1)).trans ?r1
    case h1 => simp [D_ref_SameInts_b1, hlt]; rfl
    case r1 => simp [keep]
  | k + 1, i, h => by
    have hlt : i < v.length := by omega
    have e3 : IntKind.i64.wrap ((i : Int) + 1) = ((i + 1 : Nat) : Int) := wrap_nat (by simp only [Sz] at hs ⊢; omega)
    refine lp_next (s1 := ⟨[(0, LI v), (1, LI v), (5, I ((i + 1 : Nat) : Int))], [], gh⟩) (D_ref_SameInts_b1_ok ?h2) (SameInts_loop hs k (i + 1) (by omega))
    case h2 => simp [D_ref_SameInts_b1, hlt, e3]
theorem SameInts_refl {v : List Int} (hs : Sz v.length) : callL pg 46 [LI v, LI v] gh = some (B true, gh) := by
  have h := SameInts_loop (gh := gh) hs v.length 0 (by omega)
  simp only [Int.natCast_zero] at h
  have hk := D_ref_SameInts_k1_ok (pg := pg) (gh := gh) (e := .ret) (s := ⟨[(4, B true)], [], gh⟩) rfl
  refine callL_fn (fn := f_ref_SameInts) (s := ?s1) rfl rfl (D_ref_SameInts_0_ok ?h1) ?r1
  case h1 => simp [D_ref_SameInts_0, h, hk]; rfl
  case r1 => simp [finish, results, f_ref_SameInts, resOfs, resOf, resOk]
end
end Go.Lw
end

/-! What the code of function law_toggle comes to, piece by piece. Written by program (dprint.py). -/
section
set_option maxRecDepth 10000
set_option maxHeartbeats 4000000
namespace Go.Lw
open Go
noncomputable section
variable {pg : Prg} {gh : List GObj} {e : IExit} {s : St}
def an_law_toggle : Tr := (tO 6 (.node 3 (.agg [.int .i64, .int .i64, .int .i64, .int .i64, .int .i64, .int .i64]) (.node 2 (.agg [.int .i64, .int .i64, .int .i64, .int .i64, .int .i64, .int .i64]) (.node 1 (.agg [.int .i64, .int .i64, .int .i64, .int .i64, .int .i64, .int .i64]) .nil .nil) .nil) (.node 5 (.agg [.int .i64, .int .i64]) (uO 4) .nil)) (tO 9 (tO 8 (.node 7 (.agg [.int .i64, .int .i64]) .nil .nil) .nil) (.node 10 (.agg [.any, .any, .any, .any, .any]) .nil .nil)))
def D_law_toggle_0 (pg : Prg)  (gh : List GObj) : DR := some (.ret, ⟨[(0, .ptr false 0 0)], [[.sl true 6 [.agg [I 1, I 1, I 0, I 0, I 0, I 0], .agg [I 3, I 1, I 0, I 0, I 0, I 0], .agg [I 4, I 1, I 1, I 0, I 0, I 0]], .sl true 2 [.agg [I 1, I 0]], .sl true 2 [.agg [I 1, I 2]], .sl true 1 [I 1], .sl true 1 []]], gh⟩)
theorem D_law_toggle_0_ok  (h : D_law_toggle_0 pg  gh = some (e, s)) : runL pg f_law_toggle_0 ⟨[], [], gh⟩ = some (e, s) :=
  runX_ok an_law_toggle (Eq.trans (by kernel_rfl) h)
end
end Go.Lw
end

/-! What the code of function law_listIs comes to, piece by piece. Written by program (dprint.py). -/
section
set_option maxRecDepth 10000
set_option maxHeartbeats 4000000
namespace Go.Lw
open Go
noncomputable section
variable {pg : Prg} {gh : List GObj} {e : IExit} {s : St}
def an_law_listIs : Tr := (tI 11 (tO 3 (tI 1 (uO 0) (uI 2)) (tI 9 (uB 8) (uB 10))) (tO 15 (tB 13 (uI 12) (uB 14)) (tB 17 (uO 16) (uB 18))))
def D_law_listIs_k1 (pg : Prg) (v0 : PV) (x1 x2 : Int) (v3 : PV) (gh : List GObj) : DR :=
  br 14 (x1 == x2) (isC (degr v0) (isC (degr v3) (arK (degr (degr v0)) (arK (degr (degr v3)) (
  callR gh true (callL pg 46 [(degr (degr v0)), (degr (degr v3))] gh) fun r1 gh2 => unB r1 fun b3 => some (.ret, ⟨[(8, B b3)], [], gh2⟩)))))) (some (.ret, ⟨[(8, B false)], [], gh⟩))
theorem D_law_listIs_k1_ok {v0 : PV} {x1 x2 : Int} {v3 : PV} (h : D_law_listIs_k1 pg v0 x1 x2 v3 gh = some (e, s)) : runL pg f_law_listIs_k1 ⟨[(0, v0), (1, I x1), (2, I x2), (3, v3)], [], gh⟩ = some (e, s) :=
  runX_ok an_law_listIs (Eq.trans (by kernel_rfl) h)
def D_law_listIs_0 (pg : Prg) (v0 : PV) (x1 x2 : Int) (v3 : PV) (gh : List GObj) : DR := stK 0 v0 (stK 0 v3 (stK 0 v0 (stK 0 v3 (
  br 10 (x2 != 0) (stK 0 v0 (stK 0 v0 (
  kR (runL pg f_law_listIs_k1 ⟨[(0, v0), (1, I x1), (2, I x2), (3, .sl true 1 [])], [], gh⟩) (fun e s => some (e, s))))) (stK 0 v0 (stK 0 v3 (
  kR (runL pg f_law_listIs_k1 ⟨[(0, v0), (1, I x1), (2, I x2), (3, v3)], [], gh⟩) (fun e s => some (e, s)))))))))
theorem D_law_listIs_0_ok {v0 : PV} {x1 x2 : Int} {v3 : PV} (h : D_law_listIs_0 pg v0 x1 x2 v3 gh = some (e, s)) : runL pg f_law_listIs_0 ⟨[(0, v0), (1, I x1), (2, I x2), (3, v3)], [], gh⟩ = some (e, s) :=
  runX_ok an_law_listIs (Eq.trans (by kernel_rfl) h)
end
end Go.Lw
end

/-! What the document makes of words, kind by kind. -/
section
namespace Go.Lw
open Go
theorem Made_e4 (W A B C N W0 W1 W2 : Nat) (gh : List GObj) : D_ref_Made_0 pg 4 W A B C N W0 W1 W2 gh = callR gh true (callL pg 27 [I W] gh) (fun r1 gh2 => unI .i64 r1 fun n3 => (some (.ret, ⟨[(14, (.int .i64 (IntKind.i64.wrap ((IntKind.i64.wrap (n3 - 1)) - (A : Int)))))], [], gh2⟩))) := rfl
theorem Made_e5 (W A B C N W0 W1 W2 : Nat) (gh : List GObj) : D_ref_Made_0 pg 5 W A B C N W0 W1 W2 gh = callR gh true (callL pg 27 [I W] gh) (fun r1 gh2 => unI .i64 r1 fun n3 => (gd (decide ((n3 : Int) ≠ 0)) (some (.ret, ⟨[(14, (.int .i64 (Int.tmod (IntKind.i64.wrap (n3 - (A : Int))) n3)))], [], gh2⟩)))) := rfl
theorem Made_e6 (W A B C N W0 W1 W2 : Nat) (gh : List GObj) : D_ref_Made_0 pg 6 W A B C N W0 W1 W2 gh = callR gh true (callL pg 27 [I W] gh) (fun r1 gh2 => unI .i64 r1 fun n3 => ( callR gh2 true (callL pg 67 [(.int .i64 (A : Int)), (.int .i64 (B : Int)), (.int .i64 (W : Int)), (.agg [(.int .i64 0), (.int .i64 0), (.int .i64 0), (.int .i64 1)])] gh2) fun r4 gh5 => unI .i64 r4 fun n6 => some (.ret, ⟨[(14, (.int .i64 n6))], [], gh5⟩))) := rfl
theorem Made_e7 (W A B C N W0 W1 W2 : Nat) (gh : List GObj) : D_ref_Made_0 pg 7 W A B C N W0 W1 W2 gh = callR gh true (callL pg 27 [I W] gh) (fun r1 gh2 => unI .i64 r1 fun n3 => ( callR gh2 true (callL pg 67 [(.int .i64 (A : Int)), (.int .i64 (B : Int)), (.int .i64 (W : Int)), (.agg [(.int .i64 0), (.int .i64 1), (.int .i64 1), (.int .i64 1)])] gh2) fun r7 gh8 => unI .i64 r7 fun n9 => some (.ret, ⟨[(14, (.int .i64 n9))], [], gh8⟩))) := rfl
theorem Made_e8 (W A B C N W0 W1 W2 : Nat) (gh : List GObj) : D_ref_Made_0 pg 8 W A B C N W0 W1 W2 gh = callR gh true (callL pg 27 [I W] gh) (fun r1 gh2 => unI .i64 r1 fun n3 => ( callR gh2 true (callL pg 67 [(.int .i64 (A : Int)), (.int .i64 (B : Int)), (.int .i64 (W : Int)), (.agg [(.int .i64 0), (.int .i64 1), (.int .i64 1), (.int .i64 0)])] gh2) fun r10 gh11 => unI .i64 r10 fun n12 => some (.ret, ⟨[(14, (.int .i64 n12))], [], gh11⟩))) := rfl
theorem Made_e9 (W A B C N W0 W1 W2 : Nat) (gh : List GObj) : D_ref_Made_0 pg 9 W A B C N W0 W1 W2 gh = callR gh true (callL pg 27 [I W] gh) (fun r1 gh2 => unI .i64 r1 fun n3 => (gd (decide ((n3 : Int) ≠ 0)) (some (.ret, ⟨[(14, (.int .i64 (Int.tmod (IntKind.i64.wrap ((A : Int) + (B : Int))) n3)))], [], gh2⟩)))) := rfl
theorem Made_e10 (W A B C N W0 W1 W2 : Nat) (gh : List GObj) : D_ref_Made_0 pg 10 W A B C N W0 W1 W2 gh = callR gh true (callL pg 27 [I W] gh) (fun r1 gh2 => unI .i64 r1 fun n3 => (gd (decide ((n3 : Int) ≠ 0)) (some (.ret, ⟨[(14, (.int .i64 (Int.tmod (IntKind.i64.wrap ((IntKind.i64.wrap ((A : Int) + n3)) - (B : Int))) n3)))], [], gh2⟩)))) := rfl
theorem Made_e11 (W A B C N W0 W1 W2 : Nat) (gh : List GObj) : D_ref_Made_0 pg 11 W A B C N W0 W1 W2 gh = callR gh true (callL pg 27 [I W] gh) (fun r1 gh2 => unI .i64 r1 fun n3 => (gd (decide ((n3 : Int) ≠ 0)) (some (.ret, ⟨[(14, (.int .i64 (Int.tmod (IntKind.i64.wrap ((A : Int) * (B : Int))) n3)))], [], gh2⟩)))) := rfl
theorem Made_e12 (W A B C N W0 W1 W2 : Nat) (gh : List GObj) : D_ref_Made_0 pg 12 W A B C N W0 W1 W2 gh = callR gh true (callL pg 27 [I W] gh) (fun r1 gh2 => unI .i64 r1 fun n3 => ( br 79 ((B : Int) == 0) (some (.ret, ⟨[(14, (.int .i64 (IntKind.i64.wrap (n3 - 1))))], [], gh2⟩)) (gd (decide (((B : Int) : Int) ≠ 0)) (some (.ret, ⟨[(14, (.int .i64 (IntKind.i64.wrap (Int.tdiv (A : Int) (B : Int)))))], [], gh2⟩))))) := rfl
theorem Made_e13 (W A B C N W0 W1 W2 : Nat) (gh : List GObj) : D_ref_Made_0 pg 13 W A B C N W0 W1 W2 gh = callR gh true (callL pg 27 [I W] gh) (fun r1 gh2 => unI .i64 r1 fun n3 => ( br 88 ((B : Int) == 0) (some (.ret, ⟨[(14, (.int .i64 (A : Int)))], [], gh2⟩)) (gd (decide (((B : Int) : Int) ≠ 0)) (some (.ret, ⟨[(14, (.int .i64 (Int.tmod (A : Int) (B : Int))))], [], gh2⟩))))) := rfl
theorem Made_e14 (W A B C N W0 W1 W2 : Nat) (gh : List GObj) : D_ref_Made_0 pg 14 W A B C N W0 W1 W2 gh = callR gh true (callL pg 27 [I W] gh) (fun r1 gh2 => unI .i64 r1 fun n3 => ( br 97 (decide ((W : Int) ≤ (B : Int))) (some (.ret, ⟨[(14, (.int .i64 0))], [], gh2⟩)) ( callR gh2 true (callL pg 27 [(.int .i64 (B : Int))] gh2) fun r13 gh14 => unI .i64 r13 fun n15 => gd (decide ((n3 : Int) ≠ 0)) (some (.ret, ⟨[(14, (.int .i64 (Int.tmod (IntKind.i64.wrap ((A : Int) * n15)) n3)))], [], gh14⟩))))) := rfl
theorem Made_e15 (W A B C N W0 W1 W2 : Nat) (gh : List GObj) : D_ref_Made_0 pg 15 W A B C N W0 W1 W2 gh = callR gh true (callL pg 27 [I W] gh) (fun r1 gh2 => unI .i64 r1 fun n3 => ( br 108 (decide ((W : Int) ≤ (B : Int))) (some (.ret, ⟨[(14, (.int .i64 0))], [], gh2⟩)) ( callR gh2 true (callL pg 27 [(.int .i64 (B : Int))] gh2) fun r16 gh17 => unI .i64 r16 fun n18 => gd (decide ((n18 : Int) ≠ 0)) (some (.ret, ⟨[(14, (.int .i64 (IntKind.i64.wrap (Int.tdiv (A : Int) n18))))], [], gh17⟩))))) := rfl
theorem Made_e16 (W A B C N W0 W1 W2 : Nat) (gh : List GObj) : D_ref_Made_0 pg 16 W A B C N W0 W1 W2 gh = callR gh true (callL pg 27 [I W] gh) (fun r1 gh2 => unI .i64 r1 fun n3 => ( callR gh2 true (callL pg 68 [(.bool ((A : Int) == (B : Int)))] gh2) fun r19 gh20 => unI .i64 r19 fun n21 => some (.ret, ⟨[(14, (.int .i64 n21))], [], gh20⟩))) := rfl
theorem Made_e17 (W A B C N W0 W1 W2 : Nat) (gh : List GObj) : D_ref_Made_0 pg 17 W A B C N W0 W1 W2 gh = callR gh true (callL pg 27 [I W] gh) (fun r1 gh2 => unI .i64 r1 fun n3 => ( callR gh2 true (callL pg 68 [(.bool (decide ((A : Int) < (B : Int))))] gh2) fun r22 gh23 => unI .i64 r22 fun n24 => some (.ret, ⟨[(14, (.int .i64 n24))], [], gh23⟩))) := rfl
theorem Made_e18 (W A B C N W0 W1 W2 : Nat) (gh : List GObj) : D_ref_Made_0 pg 18 W A B C N W0 W1 W2 gh = callR gh true (callL pg 27 [I W] gh) (fun r1 gh2 => unI .i64 r1 fun n3 => ( callR gh2 true (callL pg 69 [(.int .i64 (A : Int)), (.int .i64 (W0 : Int))] gh2) fun r25 gh26 => unI .i64 r25 fun n27 =>  callR gh26 true (callL pg 69 [(.int .i64 (B : Int)), (.int .i64 (W1 : Int))] gh26) fun r28 gh29 => unI .i64 r28 fun n30 =>  callR gh29 true (callL pg 68 [(.bool (decide (n27 < n30)))] gh29) fun r31 gh32 => unI .i64 r31 fun n33 => some (.ret, ⟨[(14, (.int .i64 n33))], [], gh32⟩))) := rfl
theorem Made_e19 (W A B C N W0 W1 W2 : Nat) (gh : List GObj) : D_ref_Made_0 pg 19 W A B C N W0 W1 W2 gh = callR gh true (callL pg 27 [I W] gh) (fun r1 gh2 => unI .i64 r1 fun n3 => ( br 140 ((A : Int) == 1) (some (.ret, ⟨[(14, (.int .i64 (B : Int)))], [], gh2⟩)) (some (.ret, ⟨[(14, (.int .i64 (C : Int)))], [], gh2⟩)))) := rfl
theorem Made_e20 (W A B C N W0 W1 W2 : Nat) (gh : List GObj) : D_ref_Made_0 pg 20 W A B C N W0 W1 W2 gh = callR gh true (callL pg 27 [I W] gh) (fun r1 gh2 => unI .i64 r1 fun n3 => ( callR gh2 true (callL pg 27 [(.int .i64 (W1 : Int))] gh2) fun r34 gh35 => unI .i64 r34 fun n36 => some (.ret, ⟨[(14, (.int .i64 (IntKind.i64.wrap ((IntKind.i64.wrap ((A : Int) * n36)) + (B : Int)))))], [], gh35⟩))) := rfl
theorem Made_e21 (W A B C N W0 W1 W2 : Nat) (gh : List GObj) : D_ref_Made_0 pg 21 W A B C N W0 W1 W2 gh = callR gh true (callL pg 27 [I W] gh) (fun r1 gh2 => unI .i64 r1 fun n3 => ( callR gh2 true (callL pg 27 [(.int .i64 (N : Int))] gh2) fun r37 gh38 => unI .i64 r37 fun n39 => gd (decide ((n39 : Int) ≠ 0)) (gd (decide ((n3 : Int) ≠ 0)) (some (.ret, ⟨[(14, (.int .i64 (Int.tmod (IntKind.i64.wrap (Int.tdiv (A : Int) n39)) n3)))], [], gh38⟩))))) := rfl
theorem Made_e23 (W A B C N W0 W1 W2 : Nat) (gh : List GObj) : D_ref_Made_0 pg 23 W A B C N W0 W1 W2 gh = callR gh true (callL pg 27 [I W] gh) (fun r1 gh2 => unI .i64 r1 fun n3 => ( callR gh2 true (callL pg 69 [(.int .i64 (A : Int)), (.int .i64 (W0 : Int))] gh2) fun r40 gh41 => unI .i64 r40 fun n42 => gd (decide ((n3 : Int) ≠ 0)) (some (.ret, ⟨[(14, (.int .i64 (Int.tmod (IntKind.i64.wrap (n42 + n3)) n3)))], [], gh41⟩)))) := rfl
theorem Made_e22 (W A B C N W0 W1 W2 : Nat) (gh : List GObj) : D_ref_Made_0 pg 22 W A B C N W0 W1 W2 gh = callR gh true (callL pg 27 [I W] gh) (fun r1 gh2 => unI .i64 r1 fun n3 => some (.ret, ⟨[(14, (.int .i64 (A : Int)))], [], gh2⟩)) := rfl
theorem raw_emod (k a b c n w0 w1 : Int) {W : Nat} (hW : W ≤ 8) : rawOf k W a b c n w0 w1 = doOf k a b c n w0 w1 % ((2 ^ W : Nat) : Int) := by
  unfold rawOf
  rw [mask_wrap hW, iAnd_mask _ hW, two_nat]
theorem tmod_nat (x : Int) (p : Nat) (h : 0 ≤ x) : Int.tmod x (p : Int) = x % (p : Int) := Int.tmod_eq_emod_of_nonneg h
theorem made4 {W A : Nat} (hW : 1 ≤ W ∧ W ≤ 8) (hA : A < 2 ^ W) : IntKind.i64.wrap (IntKind.i64.wrap (((2 ^ W : Nat) : Int) - 1) - (A : Int)) = iNot .i64 A % ((2 ^ W : Nat) : Int) := by
  have h1 := pow_lt hW.2
  rw [iNot_nat (by omega), wrap_id (n := ((2 ^ W : Nat) : Int) - 1) (by omega) (by omega), wrap_id (by omega) (by omega)]
  rcases w_cases hW with rfl | rfl | rfl | rfl | rfl | rfl | rfl | rfl <;> simp at hA ⊢ <;> omega
theorem made5 {W A : Nat} (hW : 1 ≤ W ∧ W ≤ 8) (hA : A < 2 ^ W) : Int.tmod (IntKind.i64.wrap (((2 ^ W : Nat) : Int) - (A : Int))) ((2 ^ W : Nat) : Int) = IntKind.i64.wrap (0 - (A : Int)) % ((2 ^ W : Nat) : Int) := by
  have h1 := pow_lt hW.2
  rw [wrap_id (by omega) (by omega), wrap_id (by omega) (by omega), tmod_nat _ _ (by omega)]
  rcases w_cases hW with rfl | rfl | rfl | rfl | rfl | rfl | rfl | rfl <;> simp at hA ⊢ <;> omega
theorem made9 {W A B : Nat} (hW : 1 ≤ W ∧ W ≤ 8) (hA : A < 2 ^ W) (hB : B < 2 ^ W) : Int.tmod (IntKind.i64.wrap ((A : Int) + B)) ((2 ^ W : Nat) : Int) = IntKind.i64.wrap ((A : Int) + B) % ((2 ^ W : Nat) : Int) := by
  have h1 := pow_lt hW.2
  rw [wrap_id (by omega) (by omega), tmod_nat _ _ (by omega)]
theorem made10 {W A B : Nat} (hW : 1 ≤ W ∧ W ≤ 8) (hA : A < 2 ^ W) (hB : B < 2 ^ W) : Int.tmod (IntKind.i64.wrap (IntKind.i64.wrap ((A : Int) + ((2 ^ W : Nat) : Int)) - B)) ((2 ^ W : Nat) : Int) = IntKind.i64.wrap ((A : Int) - B) % ((2 ^ W : Nat) : Int) := by
  have h1 := pow_lt hW.2
  rw [wrap_id (n := (A : Int) + ((2 ^ W : Nat) : Int)) (by omega) (by omega), wrap_id (by omega) (by omega), wrap_id (by omega) (by omega), tmod_nat _ _ (by omega)]
  rcases w_cases hW with rfl | rfl | rfl | rfl | rfl | rfl | rfl | rfl <;> simp at hA hB ⊢ <;> omega
theorem made11 {W A B : Nat} (hW : 1 ≤ W ∧ W ≤ 8) (hA : A < 2 ^ W) (hB : B < 2 ^ W) : Int.tmod (IntKind.i64.wrap ((A : Int) * B)) ((2 ^ W : Nat) : Int) = IntKind.i64.wrap ((A : Int) * B) % ((2 ^ W : Nat) : Int) := by
  have h1 := pow_lt hW.2
  have h2 : A * B ≤ 256 * 256 := Nat.mul_le_mul (by omega) (by omega)
  have e : (A : Int) * B = ((A * B : Nat) : Int) := by simp
  rw [e, wrap_id (by omega) (by omega), tmod_nat _ _ (by omega)]
theorem small_emod {W : Nat} {x : Int} (h0 : 0 ≤ x) (h : x < ((2 ^ W : Nat) : Int)) : x % ((2 ^ W : Nat) : Int) = x := Int.emod_eq_of_lt h0 h
theorem neg1_emod {W : Nat} (hW : 1 ≤ W ∧ W ≤ 8) : IntKind.i64.wrap (((2 ^ W : Nat) : Int) - 1) = (-1) % ((2 ^ W : Nat) : Int) := by
  rcases w_cases hW with rfl | rfl | rfl | rfl | rfl | rfl | rfl | rfl <;> decide
theorem made12 {W A B : Nat} (hW : 1 ≤ W ∧ W ≤ 8) (hA : A < 2 ^ W) : IntKind.i64.wrap (Int.tdiv (A : Int) B) = IntKind.i64.wrap (Int.tdiv (A : Int) B) % ((2 ^ W : Nat) : Int) := by
  have h1 := pow_lt hW.2
  have e0 : Int.tdiv (A : Int) (B : Int) = ((A / B : Nat) : Int) := (Int.ofNat_tdiv _ _).symm
  have h2 : A / B ≤ A := Nat.div_le_self _ _
  rw [e0]
  generalize A / B = q at h2
  rw [wrap_id (by omega) (by omega), small_emod (by omega) (by omega)]
theorem made13 {W A B : Nat} (hA : A < 2 ^ W) : Int.tmod (A : Int) B = Int.tmod (A : Int) B % ((2 ^ W : Nat) : Int) := by
  have e0 : Int.tmod (A : Int) (B : Int) = ((A % B : Nat) : Int) := (Int.ofNat_tmod _ _).symm
  have h2 : A % B ≤ A := Nat.mod_le _ _
  rw [e0]
  generalize A % B = q at h2
  rw [small_emod (by omega) (by omega)]
theorem made14 {W A B : Nat} (hW : 1 ≤ W ∧ W ≤ 8) (hA : A < 2 ^ W) (hB : B < W) : Int.tmod (IntKind.i64.wrap ((A : Int) * ((2 ^ B : Nat) : Int))) ((2 ^ W : Nat) : Int) = iShl .i64 A B % ((2 ^ W : Nat) : Int) := by
  have h1 := pow_lt hW.2
  have h2 := pow_lt (show B ≤ 8 by omega)
  have h3 : A * 2 ^ B ≤ 256 * 256 := Nat.mul_le_mul (by omega) h2
  rw [iShl_small (by omega) (by omega), ← Int.natCast_mul]
  generalize A * 2 ^ B = q at h3
  rw [wrap_id (by omega) (by omega), tmod_nat _ _ (by omega)]
theorem made15 {W A B : Nat} (hW : 1 ≤ W ∧ W ≤ 8) (hA : A < 2 ^ W) : IntKind.i64.wrap (Int.tdiv (A : Int) ((2 ^ B : Nat) : Int)) = iShr .i64 A B % ((2 ^ W : Nat) : Int) := by
  have h1 := pow_lt hW.2
  have h2 : A / 2 ^ B ≤ A := Nat.div_le_self _ _
  have e0 : Int.tdiv (A : Int) ((2 ^ B : Nat) : Int) = ((A / 2 ^ B : Nat) : Int) := (Int.ofNat_tdiv _ _).symm
  rw [iShr_nat _ _ (by omega), e0]
  generalize A / 2 ^ B = q at h2
  rw [wrap_id (by omega) (by omega), small_emod (by omega) (by omega)]
theorem made15z {W A B : Nat} (hA : A < 2 ^ W) (hW : W ≤ 8) (hB : W ≤ B) : iShr .i64 A B % ((2 ^ W : Nat) : Int) = 0 := by
  have h1 := pow_lt hW
  rw [iShr_nat _ _ (by omega), Nat.div_eq_of_lt (Nat.lt_of_lt_of_le hA (Nat.pow_le_pow_right (by decide) hB))]
  simp
theorem made20 {A B W0 W1 : Nat} (hA : A < 2 ^ W0) (hB : B < 2 ^ W1) (h0 : W0 + W1 ≤ 8) : IntKind.i64.wrap (IntKind.i64.wrap ((A : Int) * ((2 ^ W1 : Nat) : Int)) + B) = iOr .i64 (iShl .i64 A W1) B % ((2 ^ (W0 + W1) : Nat) : Int) := by
  have h1 := pow_lt (show W1 ≤ 8 by omega)
  have h2 := pow_lt (show W0 ≤ 8 by omega)
  have h3 := pow_lt h0
  have h4 : (A + 1) * 2 ^ W1 ≤ 2 ^ W0 * 2 ^ W1 := Nat.mul_le_mul_right _ hA
  rw [← Nat.pow_add, Nat.succ_mul] at h4
  rw [iShl_small (by omega) (by omega), iOr_nat (by omega) (by omega), ← Int.natCast_mul]
  have e : A * 2 ^ W1 ||| B = A * 2 ^ W1 + B := by rw [Nat.mul_comm, Nat.two_pow_add_eq_or_of_lt hB]
  rw [e]
  generalize A * 2 ^ W1 = q at h4
  rw [wrap_id (n := (q : Int)) (by omega) (by omega), wrap_id (by omega) (by omega), small_emod (by omega) (by omega)]
  omega
theorem made21 {W A N : Nat} (hW : 1 ≤ W ∧ W ≤ 8) (hA : A < 256) : Int.tmod (IntKind.i64.wrap (Int.tdiv (A : Int) ((2 ^ N : Nat) : Int))) ((2 ^ W : Nat) : Int) = iShr .i64 A N % ((2 ^ W : Nat) : Int) := by
  have h2 : A / 2 ^ N ≤ A := Nat.div_le_self _ _
  have e0 : Int.tdiv (A : Int) ((2 ^ N : Nat) : Int) = ((A / 2 ^ N : Nat) : Int) := (Int.ofNat_tdiv _ _).symm
  rw [iShr_nat _ _ (by omega), e0]
  generalize A / 2 ^ N = q at h2
  rw [wrap_id (by omega) (by omega), tmod_nat _ _ (by omega)]
theorem made23 {W A W0 : Nat} (hW : 1 ≤ W ∧ W ≤ 8) (h0 : 1 ≤ W0 ∧ W0 ≤ W) (hA : A < 2 ^ W0) : Int.tmod (IntKind.i64.wrap (sgnOf A W0 + ((2 ^ W : Nat) : Int))) ((2 ^ W : Nat) : Int) = sgnOf A W0 % ((2 ^ W : Nat) : Int) := by
  have h1 := pow_lt hW.2
  have h2 : 2 ^ W0 ≤ 2 ^ W := Nat.pow_le_pow_right (by decide) h0.2
  rw [sgnOf_nat (by omega) hA]
  split <;> rw [wrap_id (by omega) (by omega), tmod_nat _ _ (by omega), Int.add_emod_right]
theorem ne_two (W : Nat) : (((2 ^ W : Nat) : Int) ≠ 0) := by
  have := Nat.one_le_two_pow (n := W); omega
theorem Made_D {k : Int} {W A B C N W0 W1 W2 : Nat} {gh : List GObj} {s : Int} (hk : 4 ≤ k ∧ k < 24) (hs : shapeOf k = some s) (hf : fitsOf s W N W0 W1 W2 = true) (hW : 1 ≤ W ∧ W ≤ 8) (h0 : 1 ≤ W0 ∧ W0 ≤ 8) (h1 : 1 < takesOf k → 1 ≤ W1 ∧ W1 ≤ 8)
    (hA : A < 2 ^ W0) (hB : 1 < takesOf k → B < 2 ^ W1) (hC : 2 < takesOf k → C < 2 ^ W2) :
    D_ref_Made_0 pg k W A B C N W0 W1 W2 gh = some (.ret, ⟨[(14, I (rawOf k W A B C N W0 W1))], [], gh⟩) := by
  rw [raw_emod _ _ _ _ _ _ _ hW.2]
  have hT := Two_eq (show W ≤ 61 by omega) gh
  have hz := ne_two W
  have hzd : decide (((2 ^ W : Nat) : Int) ≠ 0) = true := decide_eq_true hz
  have hp := pow_lt hW.2
  have hp0 := pow_lt h0.2
  have : k = 4 ∨ k = 5 ∨ k = 6 ∨ k = 7 ∨ k = 8 ∨ k = 9 ∨ k = 10 ∨ k = 11 ∨ k = 12 ∨ k = 13 ∨ k = 14 ∨ k = 15 ∨ k = 16 ∨ k = 17 ∨ k = 18 ∨ k = 19 ∨ k = 20 ∨ k = 21 ∨ k = 22 ∨ k = 23 := by omega
  rcases this with rfl | rfl | rfl | rfl | rfl | rfl | rfl | rfl | rfl | rfl | rfl | rfl | rfl | rfl | rfl | rfl | rfl | rfl | rfl | rfl
  all_goals cases hs
  all_goals simp [fitsOf] at hf
  · rw [Made_e4, hT, callR_t, unI_int]
    obtain rfl : W0 = W := by omega
    rw [made4 hW hA]; rfl
  · rw [Made_e5, hT, callR_t, unI_int, hzd]
    obtain rfl : W0 = W := by omega
    rw [made5 hW hA]; rfl
  · obtain ⟨-, e0, e1⟩ := hf
    obtain rfl : W0 = W := by omega
    obtain rfl : W1 = W0 := by omega
    have hB := hB (by decide)
    rw [Made_e6, hT, callR_t, unI_int, bitwise_eq 0 0 0 1 (by omega) (by omega) hW.2 (tbl_and A B), callR_t, unI_int]
    rw [show doOf 6 A B C N W1 W1 = iAnd .i64 A B from rfl, iAnd_nat (by omega) (by omega), Int.natCast_emod]
  · obtain ⟨-, e0, e1⟩ := hf
    obtain rfl : W0 = W := by omega
    obtain rfl : W1 = W0 := by omega
    have hB := hB (by decide)
    rw [Made_e7, hT, callR_t, unI_int, bitwise_eq 0 1 1 1 (by omega) (by omega) hW.2 (tbl_or A B), callR_t, unI_int]
    rw [show doOf 7 A B C N W1 W1 = iOr .i64 A B from rfl, iOr_nat (by omega) (by omega), Int.natCast_emod]
  · obtain ⟨-, e0, e1⟩ := hf
    obtain rfl : W0 = W := by omega
    obtain rfl : W1 = W0 := by omega
    have hB := hB (by decide)
    rw [Made_e8, hT, callR_t, unI_int, bitwise_eq 0 1 1 0 (by omega) (by omega) hW.2 (tbl_xor A B), callR_t, unI_int]
    rw [show doOf 8 A B C N W1 W1 = iXor .i64 A B from rfl, iXor_nat (by omega) (by omega), Int.natCast_emod]
  · obtain ⟨-, e0, e1⟩ := hf
    obtain rfl : W0 = W := by omega
    obtain rfl : W1 = W0 := by omega
    rw [Made_e9, hT, callR_t, unI_int, hzd, made9 hW hA (hB (by decide))]; rfl
  · obtain ⟨-, e0, e1⟩ := hf
    obtain rfl : W0 = W := by omega
    obtain rfl : W1 = W0 := by omega
    rw [Made_e10, hT, callR_t, unI_int, hzd, made10 hW hA (hB (by decide))]; rfl
  · obtain ⟨-, e0, e1⟩ := hf
    obtain rfl : W0 = W := by omega
    obtain rfl : W1 = W0 := by omega
    rw [Made_e11, hT, callR_t, unI_int, hzd, made11 hW hA (hB (by decide))]; rfl
  · obtain ⟨-, e0, e1⟩ := hf
    obtain rfl : W0 = W := by omega
    obtain rfl : W1 = W0 := by omega
    rw [Made_e12, hT, callR_t, unI_int]
    by_cases hb : B = 0
    · subst hb
      rw [neg1_emod hW]; rfl
    · rw [show doOf 12 A B C N W1 W1 = if (B : Int) = 0 then -1 else IntKind.i64.wrap (Int.tdiv A B) from rfl, if_neg (by omega), ← made12 hW hA]
      simp [hb]
  · obtain ⟨-, e0, e1⟩ := hf
    obtain rfl : W0 = W := by omega
    obtain rfl : W1 = W0 := by omega
    rw [Made_e13, hT, callR_t, unI_int]
    by_cases hb : B = 0
    · subst hb
      rw [show doOf 13 A ((0 : Nat) : Int) C N W1 W1 = A from rfl, small_emod (by omega) (by omega)]; rfl
    · rw [show doOf 13 A B C N W1 W1 = if (B : Int) = 0 then (A : Int) else Int.tmod A B from rfl, if_neg (by omega), ← made13 hA]
      simp [hb]
  · obtain ⟨-, e0, e1⟩ := hf
    obtain rfl : W0 = W := by omega
    obtain rfl : W1 = W0 := by omega
    rw [Made_e14, hT, callR_t, unI_int, show doOf 14 A B C N W1 W1 = iShl .i64 A B from rfl]
    by_cases hb : W1 ≤ B
    · rw [decide_eq_true (by omega), two_nat, iShl_emod hW.2 hb]; rfl
    · rw [decide_eq_false (by omega), br_false, Two_eq (by omega), callR_t, unI_int, hzd, made14 hW hA (by omega)]; rfl
  · obtain ⟨-, e0, e1⟩ := hf
    obtain rfl : W0 = W := by omega
    obtain rfl : W1 = W0 := by omega
    rw [Made_e15, hT, callR_t, unI_int, show doOf 15 A B C N W1 W1 = iShr .i64 A B from rfl]
    by_cases hb : W1 ≤ B
    · rw [decide_eq_true (by omega), made15z hA hW.2 hb]; rfl
    · rw [decide_eq_false (by omega), br_false, Two_eq (by omega), callR_t, unI_int, decide_eq_true (ne_two B), made15 hW hA]; rfl
  · obtain ⟨-, e0, e1⟩ := hf
    obtain rfl : W = 1 := by omega
    rw [Made_e16, hT, callR_t, unI_int, ryes_eq, callR_t, unI_int, show doOf 16 A B C N W0 W1 = if (A : Int) = B then 1 else 0 from rfl]
    by_cases h : (A : Int) = B <;> simp [h]
  · obtain ⟨-, e0, e1⟩ := hf
    obtain rfl : W = 1 := by omega
    rw [Made_e17, hT, callR_t, unI_int, ryes_eq, callR_t, unI_int, show doOf 17 A B C N W0 W1 = if (A : Int) < B then 1 else 0 from rfl]
    by_cases h : (A : Int) < B
    · rw [decide_eq_true h]; simp [h]
    · rw [decide_eq_false h]; simp [h]
  · obtain ⟨-, e0, e1⟩ := hf
    obtain rfl : W = 1 := by omega
    rw [Made_e18, hT, callR_t, unI_int, Signed_eq h0 hA, callR_t, unI_int, Signed_eq (h1 (by decide)) (hB (by decide)), callR_t, unI_int, ryes_eq, callR_t, unI_int, show doOf 18 A B C N W0 W1 = if sgnOf A W0 < sgnOf B W1 then 1 else 0 from rfl]
    by_cases h : sgnOf A W0 < sgnOf B W1
    · rw [decide_eq_true h]; simp [h]
    · rw [decide_eq_false h]; simp [h]
  · obtain ⟨-, e0, e1, e2⟩ := hf
    obtain rfl : W1 = W := by omega
    obtain rfl : W2 = W1 := by omega
    have hB := hB (by decide)
    have hC := hC (by decide)
    rw [Made_e19, hT, callR_t, unI_int, show doOf 19 A B C N W0 W2 = if (A : Int) = 1 then (B : Int) else C from rfl]
    by_cases h : (A : Int) = 1
    · rw [if_pos h, small_emod (by omega) (by omega)]; simp [h]
    · rw [if_neg h, small_emod (by omega) (by omega)]; simp [h]
  · obtain ⟨-, e0⟩ := hf
    have g1 := h1 (by decide)
    rw [wrap_id (by omega) (by omega)] at e0
    obtain rfl : W = W0 + W1 := by omega
    rw [Made_e20, hT, callR_t, unI_int, Two_eq (by omega), callR_t, unI_int, made20 hA (hB (by decide)) hW.2]; rfl
  · rw [wrap_id (by omega) (by omega)] at hf
    rw [Made_e21, hT, callR_t, unI_int, Two_eq (by omega), callR_t, unI_int, decide_eq_true (ne_two N), hzd, made21 hW (by omega)]; rfl
  · obtain ⟨-, e0⟩ := hf
    have h2 : 2 ^ W0 ≤ 2 ^ W := Nat.pow_le_pow_right (by decide) (by omega)
    rw [Made_e22, hT, callR_t, unI_int, show doOf 22 A B C N W0 W1 = A from rfl, small_emod (by omega) (by omega)]
  · obtain ⟨-, e0⟩ := hf
    rw [Made_e23, hT, callR_t, unI_int, Signed_eq h0 hA, callR_t, unI_int, hzd, made23 hW (by omega) hA]; rfl
end Go.Lw
end

/-! What the code of function eval_Words comes to, piece by piece. Written by program (dprint.py). -/
section
set_option maxRecDepth 10000
set_option maxHeartbeats 4000000
namespace Go.Lw
open Go
noncomputable section
variable {pg : Prg} {gh : List GObj} {e : IExit} {s : St}
def an_eval_Words : Tr := (tI 16 (tO 9 (tI 6 (tO 1 (.node 0 (.agg [.any, .any, .any, .any, .any]) .nil .nil) (uO 2)) (tI 8 (uI 7) .nil)) (tB 13 (tO 11 (uI 10) (uI 12)) (tI 15 (uO 14) .nil))) (tO 26 (tO 21 (tI 18 (uB 17) (uI 20)) (tI 24 (uI 22) .nil)) (tB 31 (tI 30 (uI 27) .nil) (tI 33 (uB 32) .nil))))
def D_eval_Words_b1 (pg : Prg) (v2 v14 : PV) (x15 x16 : Int) (vc0_0 vc0_1 : PV) (vc0_2 vc0_3 vc0_4 : PV) (gh : List GObj) : DR :=
  br 17 (decide (x16 < x15)) (
  idX 1 none (degr v14) x16 fun p1 =>
  ldX [[vc0_0, vc0_1, vc0_2, vc0_3, vc0_4]] gh false 1 (degr p1) fun v3 => unI .i64 v3 fun n4 => stK 1 v2 (stK 1 v14 (isC (degr v2) (
  idX 1 none (degr (degr v2)) x16 fun p5 =>
  ldX [[vc0_0, vc0_1, vc0_2, vc0_3, vc0_4]] gh false 1 (degr p5) fun v6 => unI .i64 v6 fun n7 => isC (degr vc0_0) (
  idX 6 none (degr (degr vc0_0)) n4 fun p8 => faX (degr p8) 1 fun p9 =>
  ldX [[vc0_0, vc0_1, vc0_2, vc0_3, vc0_4]] gh false 1 (degr p9) fun v10 => unI .i64 v10 fun n11 =>
  callR gh true (callL pg 65 [I n7, I n11] gh) fun r12 gh13 => unB r12 fun b14 => stK 1 v2 (stK 1 v14 (
  br 32 (!b14) (some (.ret, ⟨[(6, I 3)], [], gh13⟩)) (stK 1 v2 (stK 1 v14 (stK 1 v2 (stK 1 v14 (some (.normal, ⟨[(2, v2), (3, .ptr false 0 0), (14, v14), (15, I x15), (16, (I (IntKind.i64.wrap (x16 + 1))))], [[vc0_0, vc0_1, vc0_2, vc0_3, vc0_4]], gh13⟩))))))))))))) (some ((.exit 0), ⟨[(2, v2), (3, .ptr false 0 0), (14, v14), (15, I x15), (16, I x16), (17, (B (decide (x16 < x15))))], [[vc0_0, vc0_1, vc0_2, vc0_3, vc0_4]], gh⟩))
theorem D_eval_Words_b1_ok {v2 v14 : PV} {x15 x16 : Int} {vc0_0 vc0_1 : PV} {vc0_2 vc0_3 vc0_4 : PV} (h : D_eval_Words_b1 pg v2 v14 x15 x16 vc0_0 vc0_1 vc0_2 vc0_3 vc0_4 gh = some (e, s)) : runL pg f_eval_Words_b1 ⟨[(2, v2), (3, .ptr false 0 0), (14, v14), (15, I x15), (16, I x16)], [[vc0_0, vc0_1, vc0_2, vc0_3, vc0_4]], gh⟩ = some (e, s) :=
  runX_ok an_eval_Words (Eq.trans (by kernel_rfl) h)
def D_eval_Words_k1 (pg : Prg)  (gh : List GObj) : DR := some (.ret, ⟨[(6, I 0)], [], gh⟩)
theorem D_eval_Words_k1_ok  (h : D_eval_Words_k1 pg  gh = some (e, s)) : runL pg f_eval_Words_k1 ⟨[], [], gh⟩ = some (e, s) :=
  runX_ok an_eval_Words (Eq.trans (by kernel_rfl) h)
def D_eval_Words_0 (pg : Prg) (v0_0 v0_1 : PV) (v0_2 v0_3 : PV) (v0_4 v1 v2 : PV) (gh : List GObj) : DR := onK (degr1 v0_0) (onK (degr1 v0_1) (onK (degr1 v0_2) (onK (degr1 v0_3) (onK (degr1 v0_4) (stK 1 v1 (stK 1 v2 (isC (degr v2) (lenS (degr (degr v2)) fun n1 => isC (degr v1) (lenS (degr (degr v1)) fun n2 => stK 1 v1 (stK 1 v2 (
  br 13 ((n1 : Int) != (n2 : Int)) (some (.ret, ⟨[(6, I 2)], [], gh⟩)) (isC (degr v1) (lenS (degr (degr v1)) fun n3 => stK 1 v2 (stK 1 (degr v1) (
  kR (runL pg f_eval_Words_l1 ⟨[(2, v2), (3, .ptr false 0 0), (14, (degr v1)), (15, (I (n3 : Int))), (16, I 0)], [[(degr1 v0_0), (degr1 v0_1), (degr1 v0_2), (degr1 v0_3), (degr1 v0_4)]], gh⟩) (fun e s => nx e s (fun e s => some (e, s)) fun s => kR (runL pg f_eval_Words_k1 s) (fun e s => some (e, s))))))))))))))))))
theorem D_eval_Words_0_ok {v0_0 v0_1 : PV} {v0_2 v0_3 : PV} {v0_4 v1 v2 : PV} (h : D_eval_Words_0 pg v0_0 v0_1 v0_2 v0_3 v0_4 v1 v2 gh = some (e, s)) : runL pg f_eval_Words_0 ⟨[(0, .agg [v0_0, v0_1, v0_2, v0_3, v0_4]), (1, v1), (2, v2)], [], gh⟩ = some (e, s) :=
  runX_ok an_eval_Words (Eq.trans (by kernel_rfl) h)
end
end Go.Lw
end

/-! What the code of function eval_ready comes to, piece by piece. Written by program (dprint.py). -/
section
set_option maxRecDepth 10000
set_option maxHeartbeats 4000000
namespace Go.Lw
open Go
noncomputable section
variable {pg : Prg} {gh : List GObj} {e : IExit} {s : St}
def an_eval_ready : Tr := (tO 14 (.node 8 (.agg [.any, .any, .any, .any, .any]) (tO 2 (tO 1 (.node 0 (.agg [.any, .any, .any, .any, .any]) .nil .nil) .nil) (tI 7 (uI 6) .nil)) (tB 11 (tI 10 (uI 9) .nil) (.node 13 (.agg [.any, .any, .any, .any, .any]) (.node 12 (.agg [.any, .any, .any, .any, .any]) .nil .nil) .nil))) (.node 20 (.agg [.any, .any, .any, .any, .any]) (tI 17 (tI 16 (uO 15) .nil) (.node 19 (.agg [.any, .any, .any, .any, .any]) (uB 18) .nil)) (tI 23 (tO 22 (uO 21) .nil) (uI 24))))
def D_eval_ready_k2 (pg : Prg) (x7 : Int) (gh : List GObj) : DR := some (.ret, ⟨[(6, I x7)], [], gh⟩)
theorem D_eval_ready_k2_ok {x7 : Int} (h : D_eval_ready_k2 pg x7 gh = some (e, s)) : runL pg f_eval_ready_k2 ⟨[(7, I x7)], [], gh⟩ = some (e, s) :=
  runX_ok an_eval_ready (Eq.trans (by kernel_rfl) h)
def D_eval_ready_k1 (pg : Prg) (v2 : PV) (x7 : Int) (vc0_0 vc0_1 : PV) (vc0_2 vc0_3 vc0_4 : PV) (gh : List GObj) : DR := stK 1 v2 (
  br 18 (x7 == 0) (onK (degr1 (degr1 vc0_0)) (onK (degr1 (degr1 vc0_1)) (onK (degr1 (degr1 vc0_2)) (onK (degr1 (degr1 vc0_3)) (onK (degr1 (degr1 vc0_4)) (
  callR gh true (callL pg 101 [(.agg [(degr1 (degr1 vc0_0)), (degr1 (degr1 vc0_1)), (degr1 (degr1 vc0_2)), (degr1 (degr1 vc0_3)), (degr1 (degr1 vc0_4))]), I 2] gh) fun r1 gh2 => isC r1 (isC (degr v2) (onK (degr1 (degr1 vc0_0)) (onK (degr1 (degr1 vc0_1)) (onK (degr1 (degr1 vc0_2)) (onK (degr1 (degr1 vc0_3)) (onK (degr1 (degr1 vc0_4)) (arK (degr r1) (arK (degr (degr v2)) (
  callR gh2 true (callL pg 135 [(.agg [(degr1 (degr1 vc0_0)), (degr1 (degr1 vc0_1)), (degr1 (degr1 vc0_2)), (degr1 (degr1 vc0_3)), (degr1 (degr1 vc0_4))]), (degr r1), (degr (degr v2))] gh2) fun r3 gh4 => unI .i64 r3 fun n5 =>
  kR (runL pg f_eval_ready_k2 ⟨[(7, I n5)], [], gh4⟩) (fun e s => some (e, s))))))))))))))))) (
  kR (runL pg f_eval_ready_k2 ⟨[(7, I x7)], [], gh⟩) (fun e s => some (e, s))))
theorem D_eval_ready_k1_ok {v2 : PV} {x7 : Int} {vc0_0 vc0_1 : PV} {vc0_2 vc0_3 vc0_4 : PV} (h : D_eval_ready_k1 pg v2 x7 vc0_0 vc0_1 vc0_2 vc0_3 vc0_4 gh = some (e, s)) : runL pg f_eval_ready_k1 ⟨[(2, v2), (3, .ptr false 0 0), (7, I x7)], [[vc0_0, vc0_1, vc0_2, vc0_3, vc0_4]], gh⟩ = some (e, s) :=
  runX_ok an_eval_ready (Eq.trans (by kernel_rfl) h)
def D_eval_ready_0 (pg : Prg) (v0_0 v0_1 : PV) (v0_2 v0_3 : PV) (v0_4 v1 v2 : PV) (gh : List GObj) : DR := onK (degr1 v0_0) (onK (degr1 v0_1) (onK (degr1 v0_2) (onK (degr1 v0_3) (onK (degr1 v0_4) (stK 1 v1 (stK 1 v2 (onK (degr1 (degr1 (degr1 v0_0))) (onK (degr1 (degr1 (degr1 v0_1))) (onK (degr1 (degr1 (degr1 v0_2))) (onK (degr1 (degr1 (degr1 v0_3))) (onK (degr1 (degr1 (degr1 v0_4))) (
  callR gh true (callL pg 38 [(.agg [(degr1 (degr1 (degr1 v0_0))), (degr1 (degr1 (degr1 v0_1))), (degr1 (degr1 (degr1 v0_2))), (degr1 (degr1 (degr1 v0_3))), (degr1 (degr1 (degr1 v0_4)))])] gh) fun r1 gh2 => unI .i64 r1 fun n3 => stK 1 v1 (stK 1 v2 (stK 1 v1 (stK 1 v2 (
  br 11 (n3 == 0) (onK (degr1 (degr1 (degr1 v0_0))) (onK (degr1 (degr1 (degr1 v0_1))) (onK (degr1 (degr1 (degr1 v0_2))) (onK (degr1 (degr1 (degr1 v0_3))) (onK (degr1 (degr1 (degr1 v0_4))) (
  callR gh2 true (callL pg 101 [(.agg [(degr1 (degr1 (degr1 v0_0))), (degr1 (degr1 (degr1 v0_1))), (degr1 (degr1 (degr1 v0_2))), (degr1 (degr1 (degr1 v0_3))), (degr1 (degr1 (degr1 v0_4)))]), I 3] gh2) fun r4 gh5 => isC r4 (isC (degr v1) (onK (degr1 (degr1 (degr1 v0_0))) (onK (degr1 (degr1 (degr1 v0_1))) (onK (degr1 (degr1 (degr1 v0_2))) (onK (degr1 (degr1 (degr1 v0_3))) (onK (degr1 (degr1 (degr1 v0_4))) (arK (degr r4) (arK (degr (degr v1)) (
  callR gh5 true (callL pg 135 [(.agg [(degr1 (degr1 (degr1 v0_0))), (degr1 (degr1 (degr1 v0_1))), (degr1 (degr1 (degr1 v0_2))), (degr1 (degr1 (degr1 v0_3))), (degr1 (degr1 (degr1 v0_4)))]), (degr r4), (degr (degr v1))] gh5) fun r6 gh7 => unI .i64 r6 fun n8 => stK 1 v2 (stK 1 v2 (
  kR (runL pg f_eval_ready_k1 ⟨[(2, v2), (3, .ptr false 0 0), (7, I n8)], [[(degr1 v0_0), (degr1 v0_1), (degr1 v0_2), (degr1 v0_3), (degr1 v0_4)]], gh7⟩) (fun e s => some (e, s))))))))))))))))))) (stK 1 v2 (
  kR (runL pg f_eval_ready_k1 ⟨[(2, v2), (3, .ptr false 0 0), (7, I n3)], [[(degr1 v0_0), (degr1 v0_1), (degr1 v0_2), (degr1 v0_3), (degr1 v0_4)]], gh2⟩) (fun e s => some (e, s))))))))))))))))))))
theorem D_eval_ready_0_ok {v0_0 v0_1 : PV} {v0_2 v0_3 : PV} {v0_4 v1 v2 : PV} (h : D_eval_ready_0 pg v0_0 v0_1 v0_2 v0_3 v0_4 v1 v2 gh = some (e, s)) : runL pg f_eval_ready_0 ⟨[(0, .agg [v0_0, v0_1, v0_2, v0_3, v0_4]), (1, v1), (2, v2)], [], gh⟩ = some (e, s) :=
  runX_ok an_eval_ready (Eq.trans (by kernel_rfl) h)
end
end Go.Lw
end

/-! What the code of function eval_zeros comes to, piece by piece. Written by program (dprint.py). -/
section
set_option maxRecDepth 10000
set_option maxHeartbeats 4000000
namespace Go.Lw
open Go
noncomputable section
variable {pg : Prg} {gh : List GObj} {e : IExit} {s : St}
def an_eval_zeros : Tr := (tO 3 (tO 2 (uO 0) .nil) (tO 5 (uI 4) .nil))
def D_eval_zeros_0 (pg : Prg) (v0 : PV) (gh : List GObj) : DR := stK 0 v0 (isC (degr v0) (lenS (degr (degr v0)) fun n1 => gd (mkOk (n1 : Int) 8 1 (I 0)) (gd (isFlat (I 0)) <| stK 0 (.sl true 1 (List.replicate (Int.toNat (n1 : Int)) (I 0))) (some (.ret, ⟨[(2, (.sl true 1 (List.replicate (Int.toNat (n1 : Int)) (I 0))))], [], gh⟩)))))
theorem D_eval_zeros_0_ok {v0 : PV} (h : D_eval_zeros_0 pg v0 gh = some (e, s)) : runL pg f_eval_zeros_0 ⟨[(0, v0)], [], gh⟩ = some (e, s) :=
  runX_ok an_eval_zeros (Eq.trans (by kernel_rfl) h)
end
end Go.Lw
end

/-! What the code of function ref_CheckWords comes to, piece by piece. Written by program (dprint.py). -/
section
set_option maxRecDepth 10000
set_option maxHeartbeats 4000000
namespace Go.Lw
open Go
noncomputable section
variable {pg : Prg} {gh : List GObj} {e : IExit} {s : St}
def an_ref_CheckWords : Tr := (tI 19 (tO 11 (tO 7 (tO 2 (tI 1 (.node 0 (.agg [.any, .any, .any, .any, .any]) .nil .nil) .nil) (uI 6)) (.node 9 (.agg [.any, .any, .any, .any, .any]) (uI 8) (uI 10))) (tI 15 (tI 13 (uO 12) (uO 14)) (tI 17 (uB 16) (uO 18)))) (tO 29 (tO 23 (tI 21 (uB 20) (uI 22)) (tI 26 (uI 24) (uO 28))) (tI 36 (tI 32 (uI 30) (uI 35)) (tB 38 (uI 37) (uB 39)))))
def D_ref_CheckWords_b1 (pg : Prg) (v2 v7 : PV) (x8 : Int) (vc0_0 vc0_1 : PV) (vc0_2 vc0_3 vc0_4 : PV) (gh : List GObj) : DR := isC (degr v2) (lenS (degr (degr v2)) fun n1 => stK 1 v2 (stK 1 v7 (
  br 20 (decide (x8 < (n1 : Int))) (isC (degr v2) (
  idX 1 none (degr (degr v2)) x8 fun p2 =>
  ldX [[vc0_0, vc0_1, vc0_2, vc0_3, vc0_4]] gh false 1 (degr p2) fun v3 => unI .i64 v3 fun n4 => isC (degr vc0_0) (isC (degr v7) (
  idX 1 none (degr (degr v7)) x8 fun p5 =>
  ldX [[vc0_0, vc0_1, vc0_2, vc0_3, vc0_4]] gh false 1 (degr p5) fun v6 => unI .i64 v6 fun n7 =>
  idX 6 none (degr (degr vc0_0)) n7 fun p8 => faX (degr p8) 1 fun p9 =>
  ldX [[vc0_0, vc0_1, vc0_2, vc0_3, vc0_4]] gh false 1 (degr p9) fun v10 => unI .i64 v10 fun n11 =>
  callR gh true (callL pg 27 [I n11] gh) fun r12 gh13 => unI .i64 r12 fun n14 =>
  callR gh13 true (callL pg 50 [I n4, I 0, (I (IntKind.i64.wrap (n14 - 1)))] gh13) fun r15 gh16 => unB r15 fun b17 => stK 1 v2 (stK 1 v7 (
  br 39 (!b17) (some (.ret, ⟨[(6, I 3)], [], gh16⟩)) (stK 1 v2 (stK 1 v7 (stK 1 v2 (stK 1 v7 (some (.normal, ⟨[(2, v2), (3, .ptr false 0 0), (7, v7), (8, (I (IntKind.i64.wrap (x8 + 1))))], [[vc0_0, vc0_1, vc0_2, vc0_3, vc0_4]], gh16⟩)))))))))))) (some ((.exit 0), ⟨[(2, v2), (3, .ptr false 0 0), (7, v7), (8, I x8), (20, (B (decide (x8 < (n1 : Int)))))], [[vc0_0, vc0_1, vc0_2, vc0_3, vc0_4]], gh⟩)))))
theorem D_ref_CheckWords_b1_ok {v2 v7 : PV} {x8 : Int} {vc0_0 vc0_1 : PV} {vc0_2 vc0_3 vc0_4 : PV} (h : D_ref_CheckWords_b1 pg v2 v7 x8 vc0_0 vc0_1 vc0_2 vc0_3 vc0_4 gh = some (e, s)) : runL pg f_ref_CheckWords_b1 ⟨[(2, v2), (3, .ptr false 0 0), (7, v7), (8, I x8)], [[vc0_0, vc0_1, vc0_2, vc0_3, vc0_4]], gh⟩ = some (e, s) :=
  runX_ok an_ref_CheckWords (Eq.trans (by kernel_rfl) h)
def D_ref_CheckWords_k1 (pg : Prg)  (gh : List GObj) : DR := some (.ret, ⟨[(6, I 0)], [], gh⟩)
theorem D_ref_CheckWords_k1_ok  (h : D_ref_CheckWords_k1 pg  gh = some (e, s)) : runL pg f_ref_CheckWords_k1 ⟨[], [], gh⟩ = some (e, s) :=
  runX_ok an_ref_CheckWords (Eq.trans (by kernel_rfl) h)
def D_ref_CheckWords_0 (pg : Prg) (v0_0 v0_1 : PV) (v0_2 v0_3 v0_4 : PV) (x1 : Int) (v2 : PV) (gh : List GObj) : DR := onK (degr1 v0_0) (onK (degr1 v0_1) (onK (degr1 v0_2) (onK (degr1 v0_3) (onK (degr1 v0_4) (stK 1 v2 (onK (degr1 (degr1 (degr1 v0_0))) (onK (degr1 (degr1 (degr1 v0_1))) (onK (degr1 (degr1 (degr1 v0_2))) (onK (degr1 (degr1 (degr1 v0_3))) (onK (degr1 (degr1 (degr1 v0_4))) (
  callR gh true (callL pg 39 [(.agg [(degr1 (degr1 (degr1 v0_0))), (degr1 (degr1 (degr1 v0_1))), (degr1 (degr1 (degr1 v0_2))), (degr1 (degr1 (degr1 v0_3))), (degr1 (degr1 (degr1 v0_4)))]), I x1] gh) fun r1 gh2 => isC r1 (stK 1 v2 (stK 1 r1 (isC (degr v2) (lenS (degr (degr v2)) fun n3 => isC (degr r1) (lenS (degr (degr r1)) fun n4 => stK 1 v2 (stK 1 r1 (
  br 16 ((n3 : Int) != (n4 : Int)) (some (.ret, ⟨[(6, I 2)], [], gh2⟩)) (stK 1 v2 (stK 1 r1 (
  kR (runL pg f_ref_CheckWords_l1 ⟨[(2, v2), (3, .ptr false 0 0), (7, r1), (8, I 0)], [[(degr1 v0_0), (degr1 v0_1), (degr1 v0_2), (degr1 v0_3), (degr1 v0_4)]], gh2⟩) (fun e s => nx e s (fun e s => some (e, s)) fun s => kR (runL pg f_ref_CheckWords_k1 s) (fun e s => some (e, s))))))))))))))))))))))))
theorem D_ref_CheckWords_0_ok {v0_0 v0_1 : PV} {v0_2 v0_3 v0_4 : PV} {x1 : Int} {v2 : PV} (h : D_ref_CheckWords_0 pg v0_0 v0_1 v0_2 v0_3 v0_4 x1 v2 gh = some (e, s)) : runL pg f_ref_CheckWords_0 ⟨[(0, .agg [v0_0, v0_1, v0_2, v0_3, v0_4]), (1, I x1), (2, v2)], [], gh⟩ = some (e, s) :=
  runX_ok an_ref_CheckWords (Eq.trans (by kernel_rfl) h)
end
end Go.Lw
end

/-! What the code of function ref_Ready comes to, piece by piece. Written by program (dprint.py). -/
section
set_option maxRecDepth 10000
set_option maxHeartbeats 4000000
namespace Go.Lw
open Go
noncomputable section
variable {pg : Prg} {gh : List GObj} {e : IExit} {s : St}
def an_ref_Ready : Tr := (.node 12 (.agg [.any, .any, .any, .any, .any]) (tI 7 (tO 2 (tO 1 (.node 0 (.agg [.any, .any, .any, .any, .any]) .nil .nil) .nil) (uI 6)) (tI 10 (tI 9 (.node 8 (.agg [.any, .any, .any, .any, .any]) .nil .nil) .nil) (uB 11))) (.node 17 (.agg [.any, .any, .any, .any, .any]) (tI 15 (tI 14 (uO 13) .nil) (uB 16)) (tI 19 (uO 18) (uI 20))))
def D_ref_Ready_k2 (pg : Prg) (x7 : Int) (gh : List GObj) : DR := some (.ret, ⟨[(6, I x7)], [], gh⟩)
theorem D_ref_Ready_k2_ok {x7 : Int} (h : D_ref_Ready_k2 pg x7 gh = some (e, s)) : runL pg f_ref_Ready_k2 ⟨[(7, I x7)], [], gh⟩ = some (e, s) :=
  runX_ok an_ref_Ready (Eq.trans (by kernel_rfl) h)
def D_ref_Ready_k1 (pg : Prg) (v2 : PV) (x7 : Int) (vc0_0 vc0_1 : PV) (vc0_2 vc0_3 vc0_4 : PV) (gh : List GObj) : DR := stK 1 v2 (
  br 16 (x7 == 0) (isC (degr v2) (onK (degr1 (degr1 vc0_0)) (onK (degr1 (degr1 vc0_1)) (onK (degr1 (degr1 vc0_2)) (onK (degr1 (degr1 vc0_3)) (onK (degr1 (degr1 vc0_4)) (arK (degr (degr v2)) (
  callR gh true (callL pg 124 [(.agg [(degr1 (degr1 vc0_0)), (degr1 (degr1 vc0_1)), (degr1 (degr1 vc0_2)), (degr1 (degr1 vc0_3)), (degr1 (degr1 vc0_4))]), I 2, (degr (degr v2))] gh) fun r1 gh2 => unI .i64 r1 fun n3 =>
  kR (runL pg f_ref_Ready_k2 ⟨[(7, I n3)], [], gh2⟩) (fun e s => some (e, s)))))))))) (
  kR (runL pg f_ref_Ready_k2 ⟨[(7, I x7)], [], gh⟩) (fun e s => some (e, s))))
theorem D_ref_Ready_k1_ok {v2 : PV} {x7 : Int} {vc0_0 vc0_1 : PV} {vc0_2 vc0_3 vc0_4 : PV} (h : D_ref_Ready_k1 pg v2 x7 vc0_0 vc0_1 vc0_2 vc0_3 vc0_4 gh = some (e, s)) : runL pg f_ref_Ready_k1 ⟨[(2, v2), (3, .ptr false 0 0), (7, I x7)], [[vc0_0, vc0_1, vc0_2, vc0_3, vc0_4]], gh⟩ = some (e, s) :=
  runX_ok an_ref_Ready (Eq.trans (by kernel_rfl) h)
def D_ref_Ready_0 (pg : Prg) (v0_0 v0_1 : PV) (v0_2 v0_3 : PV) (v0_4 v1 v2 : PV) (gh : List GObj) : DR := onK (degr1 v0_0) (onK (degr1 v0_1) (onK (degr1 v0_2) (onK (degr1 v0_3) (onK (degr1 v0_4) (stK 1 v1 (stK 1 v2 (onK (degr1 (degr1 (degr1 v0_0))) (onK (degr1 (degr1 (degr1 v0_1))) (onK (degr1 (degr1 (degr1 v0_2))) (onK (degr1 (degr1 (degr1 v0_3))) (onK (degr1 (degr1 (degr1 v0_4))) (
  callR gh true (callL pg 36 [(.agg [(degr1 (degr1 (degr1 v0_0))), (degr1 (degr1 (degr1 v0_1))), (degr1 (degr1 (degr1 v0_2))), (degr1 (degr1 (degr1 v0_3))), (degr1 (degr1 (degr1 v0_4)))])] gh) fun r1 gh2 => unI .i64 r1 fun n3 => stK 1 v1 (stK 1 v2 (stK 1 v1 (stK 1 v2 (
  br 11 (n3 == 0) (isC (degr v1) (onK (degr1 (degr1 (degr1 v0_0))) (onK (degr1 (degr1 (degr1 v0_1))) (onK (degr1 (degr1 (degr1 v0_2))) (onK (degr1 (degr1 (degr1 v0_3))) (onK (degr1 (degr1 (degr1 v0_4))) (arK (degr (degr v1)) (
  callR gh2 true (callL pg 124 [(.agg [(degr1 (degr1 (degr1 v0_0))), (degr1 (degr1 (degr1 v0_1))), (degr1 (degr1 (degr1 v0_2))), (degr1 (degr1 (degr1 v0_3))), (degr1 (degr1 (degr1 v0_4)))]), I 3, (degr (degr v1))] gh2) fun r4 gh5 => unI .i64 r4 fun n6 => stK 1 v2 (stK 1 v2 (
  kR (runL pg f_ref_Ready_k1 ⟨[(2, v2), (3, .ptr false 0 0), (7, I n6)], [[(degr1 v0_0), (degr1 v0_1), (degr1 v0_2), (degr1 v0_3), (degr1 v0_4)]], gh5⟩) (fun e s => some (e, s)))))))))))) (stK 1 v2 (
  kR (runL pg f_ref_Ready_k1 ⟨[(2, v2), (3, .ptr false 0 0), (7, I n3)], [[(degr1 v0_0), (degr1 v0_1), (degr1 v0_2), (degr1 v0_3), (degr1 v0_4)]], gh2⟩) (fun e s => some (e, s))))))))))))))))))))
theorem D_ref_Ready_0_ok {v0_0 v0_1 : PV} {v0_2 v0_3 : PV} {v0_4 v1 v2 : PV} (h : D_ref_Ready_0 pg v0_0 v0_1 v0_2 v0_3 v0_4 v1 v2 gh = some (e, s)) : runL pg f_ref_Ready_0 ⟨[(0, .agg [v0_0, v0_1, v0_2, v0_3, v0_4]), (1, v1), (2, v2)], [], gh⟩ = some (e, s) :=
  runX_ok an_ref_Ready (Eq.trans (by kernel_rfl) h)
end
end Go.Lw
end

/-! What the code of function eval_Raw comes to, piece by piece. Written by program (dprint.py). -/
section
set_option maxRecDepth 10000
set_option maxHeartbeats 4000000
namespace Go.Lw
open Go
noncomputable section
variable {pg : Prg} {gh : List GObj} {e : IExit} {s : St}
def an_eval_Raw : Tr := (tI 45 (tI 21 (tO 12 (tO 6 (tO 1 (.node 0 (.agg [.any, .any, .any, .any, .any]) .nil .nil) (uO 2)) (tO 8 (uG 7) (uI 9))) (tO 17 (tO 14 (uI 13) (uO 15)) (tI 19 (uI 18) (uB 20)))) (tI 34 (tI 27 (tI 25 (.node 23 (.agg [.int .i64, .int .i64, .int .i64, .int .i64, .int .i64, .int .i64]) .nil .nil) (uO 26)) (tI 31 (uI 29) (uO 32))) (tI 39 (tO 36 (uI 35) (uI 38)) (tI 42 (uO 40) (uI 43))))) (tO 63 (tO 54 (tI 50 (.node 48 (.agg [.int .i64, .int .i64, .int .i64, .int .i64, .int .i64, .int .i64]) (uO 47) (.node 49 (.agg [.int .i64, .int .i64, .int .i64]) .nil .nil)) (tB 52 (uG 51) (uB 53))) (tB 59 (tI 57 (uI 55) (uG 58)) (tO 61 (uB 60) (uI 62)))) (tI 72 (tG 68 (tO 66 (uI 65) (uO 67)) (tB 70 (uB 69) (uO 71))) (tO 77 (tI 75 (uO 73) (uO 76)) (tI 79 (uG 78) (uO 80))))))
def D_eval_Raw_k1 (pg : Prg) (v1 v2 : PV) (g7 o7 : Nat) (v8 v17 : PV) (x18 x19 : Int) (vc0_0 vc0_1 : PV) (vc0_2 vc0_3 vc0_4 : PV) (gh : List GObj) : DR := stK 1 v1 (stK 1 v2 (stK 1 v8 (stK 1 v17 (some (.normal, ⟨[(1, v1), (2, v2), (3, .ptr false 0 0), (7, .ptr true g7 o7), (8, v8), (17, v17), (18, I x18), (19, (I (IntKind.i64.wrap (x19 + 1))))], [[vc0_0, vc0_1, vc0_2, vc0_3, vc0_4]], gh⟩)))))
theorem D_eval_Raw_k1_ok {v1 v2 : PV} {g7 o7 : Nat} {v8 v17 : PV} {x18 x19 : Int} {vc0_0 vc0_1 : PV} {vc0_2 vc0_3 vc0_4 : PV} (h : D_eval_Raw_k1 pg v1 v2 g7 o7 v8 v17 x18 x19 vc0_0 vc0_1 vc0_2 vc0_3 vc0_4 gh = some (e, s)) : runL pg f_eval_Raw_k1 ⟨[(1, v1), (2, v2), (3, .ptr false 0 0), (7, .ptr true g7 o7), (8, v8), (17, v17), (18, I x18), (19, I x19)], [[vc0_0, vc0_1, vc0_2, vc0_3, vc0_4]], gh⟩ = some (e, s) :=
  runX_ok an_eval_Raw (Eq.trans (by kernel_rfl) h)
def D_eval_Raw_b1 (pg : Prg) (v1 v2 : PV) (g7 o7 : Nat) (v8 v17 : PV) (x18 x19 : Int) (vc0_0 vc0_1 : PV) (vc0_2 vc0_3 vc0_4 : PV) (gh : List GObj) : DR :=
  br 20 (decide (x19 < x18)) (
  idX 6 none (degr v17) x19 fun p1 =>
  ldX [[vc0_0, vc0_1, vc0_2, vc0_3, vc0_4]] gh true 6 (degr p1) fun v3 => unA 6 v3 fun c4 c5 c6 c7 c8 c9 => unI .i64 c4 fun n10 => unI .i64 c5 fun n11 => unI .i64 c6 fun n12 => unI .i64 c7 fun n13 => unI .i64 c8 fun n14 => unI .i64 c9 fun n15 => stK 2 v1 (stK 2 v2 (stK 2 v8 (stK 2 v17 (stK 2 v1 (stK 2 v2 (stK 2 v8 (stK 2 v17 (stK 2 v1 (stK 2 v2 (stK 2 v8 (stK 2 v17 (
  br 52 (n10 == 1) (
  ob (ghCells gh g7) fun cs16 =>
  ob (grab false 1 o7 cs16) fun v18 => isC (degr v18) (
  idX 1 none (degr (degr v18)) x19 fun p19 => unG p19 fun g20 o21 =>
  ob (ghCells gh g20) fun cs22 => gb (stOk 1 o21 [I n15] cs22) (stK 1 v1 (stK 1 v2 (stK 1 v8 (stK 1 v17 (stK 1 v1 (stK 1 v2 (stK 1 v8 (stK 1 v17 (
  kR (runL pg f_eval_Raw_k1 ⟨[(1, v1), (2, v2), (3, .ptr false 0 0), (7, .ptr true g7 o7), (8, v8), (17, v17), (18, I x18), (19, I x19)], [[vc0_0, vc0_1, vc0_2, vc0_3, vc0_4]], (List.set gh g20 (.cells (spliceAt cs22 o21 [I n15])))⟩) (fun e s => po [1, 2, 3, 7, 8, 17, 18, 19] 1 e s (fun e s => some (e, s)))))))))))))) (stK 2 v1 (stK 2 v2 (stK 2 v8 (stK 2 v17 (
  br 59 (n10 == 3) (
  ob (ghCells gh g7) fun cs23 =>
  ob (grab false 1 o7 cs23) fun v24 => isC (degr v24) (isC (degr v1) (
  idX 1 none (degr (degr v1)) 0 fun p25 =>
  ldX [[vc0_0, vc0_1, vc0_2, vc0_3, vc0_4], [I n10, I n11, I n12, I n13, I n14, I n15]] gh false 1 (degr p25) fun v26 => unI .i64 v26 fun n27 => isC (degr v1) (
  slX 1 (degr (degr v1)) (some 1) none fun v28 => isC v28 (
  idX 1 none (degr (degr v24)) x19 fun p29 => unG p29 fun g30 o31 =>
  ob (ghCells gh g30) fun cs32 => gb (stOk 1 o31 [I n27] cs32) (stK 1 v28 (stK 1 v2 (stK 1 v8 (stK 1 v17 (stK 1 v28 (stK 1 v2 (stK 1 v8 (stK 1 v17 (stK 1 v28 (stK 1 v2 (stK 1 v8 (stK 1 v17 (
  kR (runL pg f_eval_Raw_k1 ⟨[(1, v28), (2, v2), (3, .ptr false 0 0), (7, .ptr true g7 o7), (8, v8), (17, v17), (18, I x18), (19, I x19)], [[vc0_0, vc0_1, vc0_2, vc0_3, vc0_4]], (List.set gh g30 (.cells (spliceAt cs32 o31 [I n27])))⟩) (fun e s => po [1, 2, 3, 7, 8, 17, 18, 19] 1 e s (fun e s => some (e, s))))))))))))))))))))) (stK 2 v1 (stK 2 v2 (stK 2 v8 (stK 2 v17 (
  br 69 (n10 == 2) (
  ob (ghCells gh g7) fun cs33 =>
  ob (grab false 1 o7 cs33) fun v34 => isC (degr v34) (isC (degr v2) (
  idX 1 none (degr (degr v2)) 0 fun p35 =>
  ldX [[vc0_0, vc0_1, vc0_2, vc0_3, vc0_4], [I n10, I n11, I n12, I n13, I n14, I n15]] gh false 1 (degr p35) fun v36 => unI .i64 v36 fun n37 => isC (degr v2) (
  slX 1 (degr (degr v2)) (some 1) none fun v38 => isC v38 (
  idX 1 none (degr (degr v34)) x19 fun p39 => unG p39 fun g40 o41 =>
  ob (ghCells gh g40) fun cs42 => gb (stOk 1 o41 [I n37] cs42) (stK 1 v1 (stK 1 v38 (stK 1 v8 (stK 1 v17 (stK 1 v1 (stK 1 v38 (stK 1 v8 (stK 1 v17 (stK 1 v1 (stK 1 v38 (stK 1 v8 (stK 1 v17 (stK 1 v1 (stK 1 v38 (stK 1 v8 (stK 1 v17 (
  kR (runL pg f_eval_Raw_k1 ⟨[(1, v1), (2, v38), (3, .ptr false 0 0), (7, .ptr true g7 o7), (8, v8), (17, v17), (18, I x18), (19, I x19)], [[vc0_0, vc0_1, vc0_2, vc0_3, vc0_4]], (List.set gh g40 (.cells (spliceAt cs42 o41 [I n37])))⟩) (fun e s => po [1, 2, 3, 7, 8, 17, 18, 19] 1 e s (fun e s => some (e, s))))))))))))))))))))))))) (
  ob (ghCells gh g7) fun cs43 =>
  ob (grab false 1 o7 cs43) fun v44 => isC (degr v44) (isC (degr v8) (
  fnX (degr (degr v8)) fun f47 cs48 => allK cs48 (callR gh true (callL pg f47 ([I n12] ++ cs48) gh) fun r45 gh46 => unI .i64 r45 fun n49 => isC (degr v8) (
  fnX (degr (degr v8)) fun f52 cs53 => allK cs53 (callR gh46 true (callL pg f52 ([I n13] ++ cs53) gh46) fun r50 gh51 => unI .i64 r50 fun n54 => isC (degr v8) (
  fnX (degr (degr v8)) fun f57 cs58 => allK cs58 (callR gh51 true (callL pg f57 ([I n14] ++ cs58) gh51) fun r55 gh56 => unI .i64 r55 fun n59 => isC (degr vc0_0) (arK (degr (degr vc0_0)) (
  callR gh56 true (callL pg 104 [(degr (degr vc0_0)), .agg [I n10, I n11, I n12, I n13, I n14, I n15]] gh56) fun r60 gh61 => unA 3 r60 fun c62 c63 c64 => unI .i64 c62 fun n65 => unI .i64 c63 fun n66 => unI .i64 c64 fun n67 =>
  callR gh61 true (callL pg 66 [I n10, I n11, I n49, I n54, I n59, I n15, .agg [I n65, I n66, I n67]] gh61) fun r68 gh69 => unI .i64 r68 fun n70 =>
  idX 1 none (degr (degr v44)) x19 fun p71 => unG p71 fun g72 o73 =>
  ob (ghCells gh69 g72) fun cs74 => gb (stOk 1 o73 [I n70] cs74) (stK 1 v1 (stK 1 v2 (stK 1 v8 (stK 1 v17 (stK 1 v1 (stK 1 v2 (stK 1 v8 (stK 1 v17 (stK 1 v1 (stK 1 v2 (stK 1 v8 (stK 1 v17 (stK 1 v1 (stK 1 v2 (stK 1 v8 (stK 1 v17 (
  kR (runL pg f_eval_Raw_k1 ⟨[(1, v1), (2, v2), (3, .ptr false 0 0), (7, .ptr true g7 o7), (8, v8), (17, v17), (18, I x18), (19, I x19)], [[vc0_0, vc0_1, vc0_2, vc0_3, vc0_4]], (List.set gh69 g72 (.cells (spliceAt cs74 o73 [I n70])))⟩) (fun e s => po [1, 2, 3, 7, 8, 17, 18, 19] 1 e s (fun e s => some (e, s))))))))))))))))))))))))))))))))))))))))))))))))))))) (some ((.exit 0), ⟨[(1, v1), (2, v2), (3, .ptr false 0 0), (7, .ptr true g7 o7), (8, v8), (17, v17), (18, I x18), (19, I x19), (20, (B (decide (x19 < x18))))], [[vc0_0, vc0_1, vc0_2, vc0_3, vc0_4]], gh⟩))
theorem D_eval_Raw_b1_ok {v1 v2 : PV} {g7 o7 : Nat} {v8 v17 : PV} {x18 x19 : Int} {vc0_0 vc0_1 : PV} {vc0_2 vc0_3 vc0_4 : PV} (h : D_eval_Raw_b1 pg v1 v2 g7 o7 v8 v17 x18 x19 vc0_0 vc0_1 vc0_2 vc0_3 vc0_4 gh = some (e, s)) : runL pg f_eval_Raw_b1 ⟨[(1, v1), (2, v2), (3, .ptr false 0 0), (7, .ptr true g7 o7), (8, v8), (17, v17), (18, I x18), (19, I x19)], [[vc0_0, vc0_1, vc0_2, vc0_3, vc0_4]], gh⟩ = some (e, s) :=
  runX_ok an_eval_Raw (Eq.trans (by kernel_rfl) h)
def D_eval_Raw_k2 (pg : Prg) (g7 o7 : Nat) (gh : List GObj) : DR :=
  ob (ghCells gh g7) fun cs1 =>
  ob (grab false 1 o7 cs1) fun v2 => isC (degr v2) (stK 0 (degr v2) (some (.ret, ⟨[(6, (degr v2))], [], gh⟩)))
theorem D_eval_Raw_k2_ok {g7 o7 : Nat} (h : D_eval_Raw_k2 pg g7 o7 gh = some (e, s)) : runL pg f_eval_Raw_k2 ⟨[(7, .ptr true g7 o7)], [], gh⟩ = some (e, s) :=
  runX_ok an_eval_Raw (Eq.trans (by kernel_rfl) h)
def D_eval_Raw_0 (pg : Prg) (v0_0 v0_1 : PV) (v0_2 v0_3 : PV) (v0_4 v1 v2 : PV) (gh : List GObj) : DR := onK (degr1 v0_0) (onK (degr1 v0_1) (onK (degr1 v0_2) (onK (degr1 v0_3) (onK (degr1 v0_4) (stK 1 v1 (stK 1 v2 (isC (degr (degr1 v0_0)) (lenS (degr (degr (degr1 v0_0))) fun n1 => gd (mkOk (n1 : Int) 8 1 (I 0)) (
  ob (ghCells ((gh ++ [.cells (List.flatMap PV.cells (List.replicate (Int.toNat (n1 : Int)) (I 0)))]) ++ [.cells [.sl true 1 []]]) (List.length (gh ++ [.cells (List.flatMap PV.cells (List.replicate (Int.toNat (n1 : Int)) (I 0)))]))) fun cs2 => gb (stOk 1 0 [(.bs true (List.length gh) 0 (Int.toNat (n1 : Int)) 1)] cs2) (stK 1 v1 (stK 1 v2 (stK 1 v1 (stK 1 v2 (isC (degr (degr1 v0_0)) (lenS (degr (degr (degr1 v0_0))) fun n3 => stK 1 v1 (stK 1 v2 (stK 1 (degr (degr1 v0_0)) (
  kR (runL pg f_eval_Raw_l1 ⟨[(1, v1), (2, v2), (3, .ptr false 0 0), (7, (.ptr true (List.length (gh ++ [.cells (List.flatMap PV.cells (List.replicate (Int.toNat (n1 : Int)) (I 0)))])) 0)), (8, (.fn 143 [(.ptr true (List.length (gh ++ [.cells (List.flatMap PV.cells (List.replicate (Int.toNat (n1 : Int)) (I 0)))])) 0)])), (17, (degr (degr1 v0_0))), (18, (I (n3 : Int))), (19, I 0)], [[(degr1 v0_0), (degr1 v0_1), (degr1 v0_2), (degr1 v0_3), (degr1 v0_4)]], (List.set ((gh ++ [.cells (List.flatMap PV.cells (List.replicate (Int.toNat (n1 : Int)) (I 0)))]) ++ [.cells [.sl true 1 []]]) (List.length (gh ++ [.cells (List.flatMap PV.cells (List.replicate (Int.toNat (n1 : Int)) (I 0)))])) (.cells (spliceAt cs2 0 [(.bs true (List.length gh) 0 (Int.toNat (n1 : Int)) 1)])))⟩) (fun e s => nx e s (fun e s => some (e, s)) fun s => kR (runL pg f_eval_Raw_k2 s) (fun e s => some (e, s)))))))))))))))))))))
theorem D_eval_Raw_0_ok {v0_0 v0_1 : PV} {v0_2 v0_3 : PV} {v0_4 v1 v2 : PV} (h : D_eval_Raw_0 pg v0_0 v0_1 v0_2 v0_3 v0_4 v1 v2 gh = some (e, s)) : runL pg f_eval_Raw_0 ⟨[(0, .agg [v0_0, v0_1, v0_2, v0_3, v0_4]), (1, v1), (2, v2)], [], gh⟩ = some (e, s) :=
  runX_ok an_eval_Raw (Eq.trans (by kernel_rfl) h)
end
end Go.Lw
end

/-! What the code of function eval_Raw_1 comes to, piece by piece. Written by program (dprint.py). -/
section
set_option maxRecDepth 10000
set_option maxHeartbeats 4000000
namespace Go.Lw
open Go
noncomputable section
variable {pg : Prg} {gh : List GObj} {e : IExit} {s : St}
def an_eval_Raw_1 : Tr := (tO 4 (tG 1 (uI 0) (uI 3)) (tI 7 (uI 5) .nil))
def D_eval_Raw_1_0 (pg : Prg) (x0 : Int) (g1 o1 : Nat) (gh : List GObj) : DR :=
  ob (ghCells gh g1) fun cs1 =>
  ob (grab false 1 o1 cs1) fun v2 => isC (degr v2) (
  idX 1 none (degr (degr v2)) x0 fun p3 =>
  ldX [] gh false 1 (degr p3) fun v4 => unI .i64 v4 fun n5 => some (.ret, ⟨[(3, I n5)], [], gh⟩))
theorem D_eval_Raw_1_0_ok {x0 : Int} {g1 o1 : Nat} (h : D_eval_Raw_1_0 pg x0 g1 o1 gh = some (e, s)) : runL pg f_eval_Raw_1_0 ⟨[(0, I x0), (1, .ptr true g1 o1)], [], gh⟩ = some (e, s) :=
  runX_ok an_eval_Raw_1 (Eq.trans (by kernel_rfl) h)
end
end Go.Lw
end

/-! What the code of function ref_ValuesOf comes to, piece by piece. Written by program (dprint.py). -/
section
set_option maxRecDepth 10000
set_option maxHeartbeats 4000000
namespace Go.Lw
open Go
noncomputable section
variable {pg : Prg} {gh : List GObj} {e : IExit} {s : St}
def an_ref_ValuesOf : Tr := (tI 50 (tI 22 (tO 13 (tO 7 (tO 2 (tO 1 (.node 0 (.agg [.any, .any, .any, .any, .any]) .nil .nil) .nil) (uO 6)) (tI 9 (uI 8) (uI 10))) (tO 18 (tO 15 (uI 14) (uI 16)) (tB 20 (uI 19) (uI 21)))) (tO 36 (tO 30 (.node 27 (.agg [.int .i64, .int .i64, .int .i64, .int .i64, .int .i64, .int .i64]) (tI 25 (uO 24) .nil) (uI 29)) (tI 33 (uI 31) (uI 35))) (tI 43 (tI 40 (uI 38) (uO 41)) (tO 46 (uI 45) (uI 48))))) (tO 70 (tO 61 (tI 57 (.node 55 (.agg [.int .i64, .int .i64, .int .i64, .int .i64, .int .i64, .int .i64]) (tO 54 (uI 52) .nil) (.node 56 (.agg [.int .i64, .int .i64, .int .i64]) .nil .nil)) (tB 59 (uG 58) (uB 60))) (tB 66 (tI 64 (uI 62) (uG 65)) (tO 68 (uB 67) (uI 69)))) (tI 80 (tI 76 (tG 74 (tI 73 (uI 71) .nil) (uI 75)) (tB 78 (uB 77) (uO 79))) (tG 85 (tI 82 (uO 81) (uI 84)) (tI 87 (uI 86) (uO 88))))))
def D_ref_ValuesOf_k1 (pg : Prg) (v1 v2 v7 : PV) (x8 x9 x10 : Int) (vc0_0 vc0_1 : PV) (vc0_2 vc0_3 vc0_4 : PV) (gh : List GObj) : DR := stK 1 v1 (stK 1 v2 (stK 1 v7 (some (.normal, ⟨[(1, v1), (2, v2), (3, .ptr false 0 0), (7, v7), (8, I x8), (9, I x9), (10, (I (IntKind.i64.wrap (x10 + 1))))], [[vc0_0, vc0_1, vc0_2, vc0_3, vc0_4]], gh⟩))))
theorem D_ref_ValuesOf_k1_ok {v1 v2 v7 : PV} {x8 x9 x10 : Int} {vc0_0 vc0_1 : PV} {vc0_2 vc0_3 vc0_4 : PV} (h : D_ref_ValuesOf_k1 pg v1 v2 v7 x8 x9 x10 vc0_0 vc0_1 vc0_2 vc0_3 vc0_4 gh = some (e, s)) : runL pg f_ref_ValuesOf_k1 ⟨[(1, v1), (2, v2), (3, .ptr false 0 0), (7, v7), (8, I x8), (9, I x9), (10, I x10)], [[vc0_0, vc0_1, vc0_2, vc0_3, vc0_4]], gh⟩ = some (e, s) :=
  runX_ok an_ref_ValuesOf (Eq.trans (by kernel_rfl) h)
def D_ref_ValuesOf_b1 (pg : Prg) (v1 v2 v7 : PV) (x8 x9 x10 : Int) (vc0_0 vc0_1 : PV) (vc0_2 vc0_3 vc0_4 : PV) (gh : List GObj) : DR := isC (degr vc0_0) (lenS (degr (degr vc0_0)) fun n1 => stK 1 v1 (stK 1 v2 (stK 1 v7 (
  br 20 (decide (x10 < (n1 : Int))) (isC (degr vc0_0) (
  idX 6 none (degr (degr vc0_0)) x10 fun p2 =>
  ldX [[vc0_0, vc0_1, vc0_2, vc0_3, vc0_4]] gh true 6 (degr p2) fun v3 => unA 6 v3 fun c4 c5 c6 c7 c8 c9 => unI .i64 c4 fun n10 => unI .i64 c5 fun n11 => unI .i64 c6 fun n12 => unI .i64 c7 fun n13 => unI .i64 c8 fun n14 => unI .i64 c9 fun n15 => stK 2 v1 (stK 2 v2 (stK 2 v7 (stK 2 v1 (stK 2 v2 (stK 2 v7 (stK 2 v1 (stK 2 v2 (stK 2 v7 (
  br 59 (n10 == 1) (isC (degr v7) (
  idX 1 none (degr (degr v7)) x10 fun p16 => unG p16 fun g17 o18 =>
  ob (ghCells gh g17) fun cs19 => gb (stOk 1 o18 [I n15] cs19) (stK 1 v1 (stK 1 v2 (stK 1 v7 (stK 1 v1 (stK 1 v2 (stK 1 v7 (
  kR (runL pg f_ref_ValuesOf_k1 ⟨[(1, v1), (2, v2), (3, .ptr false 0 0), (7, v7), (8, I x8), (9, I x9), (10, I x10)], [[vc0_0, vc0_1, vc0_2, vc0_3, vc0_4]], (List.set gh g17 (.cells (spliceAt cs19 o18 [I n15])))⟩) (fun e s => po [1, 2, 3, 7, 8, 9, 10] 1 e s (fun e s => some (e, s)))))))))))) (stK 2 v1 (stK 2 v2 (stK 2 v7 (
  br 66 (n10 == 2) (isC (degr v7) (isC (degr v2) (
  idX 1 none (degr (degr v2)) x9 fun p20 =>
  ldX [[vc0_0, vc0_1, vc0_2, vc0_3, vc0_4], [I n10, I n11, I n12, I n13, I n14, I n15]] gh false 1 (degr p20) fun v21 => unI .i64 v21 fun n22 =>
  idX 1 none (degr (degr v7)) x10 fun p23 => unG p23 fun g24 o25 =>
  ob (ghCells gh g24) fun cs26 => gb (stOk 1 o25 [I n22] cs26) (stK 1 v1 (stK 1 v2 (stK 1 v7 (stK 1 v1 (stK 1 v2 (stK 1 v7 (stK 1 v1 (stK 1 v2 (stK 1 v7 (stK 1 v1 (stK 1 v2 (stK 1 v7 (
  kR (runL pg f_ref_ValuesOf_k1 ⟨[(1, v1), (2, v2), (3, .ptr false 0 0), (7, v7), (8, I x8), (9, (I (IntKind.i64.wrap (x9 + 1)))), (10, I x10)], [[vc0_0, vc0_1, vc0_2, vc0_3, vc0_4]], (List.set gh g24 (.cells (spliceAt cs26 o25 [I n22])))⟩) (fun e s => po [1, 2, 3, 7, 8, 9, 10] 1 e s (fun e s => some (e, s))))))))))))))))))) (stK 2 v1 (stK 2 v2 (stK 2 v7 (
  br 77 (n10 == 3) (isC (degr v7) (isC (degr v1) (
  idX 1 none (degr (degr v1)) x8 fun p27 =>
  ldX [[vc0_0, vc0_1, vc0_2, vc0_3, vc0_4], [I n10, I n11, I n12, I n13, I n14, I n15]] gh false 1 (degr p27) fun v28 => unI .i64 v28 fun n29 =>
  idX 1 none (degr (degr v7)) x10 fun p30 => unG p30 fun g31 o32 =>
  ob (ghCells gh g31) fun cs33 => gb (stOk 1 o32 [I n29] cs33) (stK 1 v1 (stK 1 v2 (stK 1 v7 (stK 1 v1 (stK 1 v2 (stK 1 v7 (stK 1 v1 (stK 1 v2 (stK 1 v7 (stK 1 v1 (stK 1 v2 (stK 1 v7 (stK 1 v1 (stK 1 v2 (stK 1 v7 (
  kR (runL pg f_ref_ValuesOf_k1 ⟨[(1, v1), (2, v2), (3, .ptr false 0 0), (7, v7), (8, (I (IntKind.i64.wrap (x8 + 1)))), (9, I x9), (10, I x10)], [[vc0_0, vc0_1, vc0_2, vc0_3, vc0_4]], (List.set gh g31 (.cells (spliceAt cs33 o32 [I n29])))⟩) (fun e s => po [1, 2, 3, 7, 8, 9, 10] 1 e s (fun e s => some (e, s)))))))))))))))))))))) (isC (degr v7) (isC (degr v7) (
  idX 1 none (degr (degr v7)) n12 fun p34 =>
  ldX [[vc0_0, vc0_1, vc0_2, vc0_3, vc0_4], [I n10, I n11, I n12, I n13, I n14, I n15]] gh false 1 (degr p34) fun v35 => unI .i64 v35 fun n36 => isC (degr v7) (
  idX 1 none (degr (degr v7)) n13 fun p37 =>
  ldX [[vc0_0, vc0_1, vc0_2, vc0_3, vc0_4], [I n10, I n11, I n12, I n13, I n14, I n15]] gh false 1 (degr p37) fun v38 => unI .i64 v38 fun n39 => isC (degr v7) (
  idX 1 none (degr (degr v7)) n14 fun p40 =>
  ldX [[vc0_0, vc0_1, vc0_2, vc0_3, vc0_4], [I n10, I n11, I n12, I n13, I n14, I n15]] gh false 1 (degr p40) fun v41 => unI .i64 v41 fun n42 => isC (degr vc0_0) (arK (degr (degr vc0_0)) (
  callR gh true (callL pg 102 [(degr (degr vc0_0)), .agg [I n10, I n11, I n12, I n13, I n14, I n15]] gh) fun r43 gh44 => unA 3 r43 fun c45 c46 c47 => unI .i64 c45 fun n48 => unI .i64 c46 fun n49 => unI .i64 c47 fun n50 =>
  callR gh44 true (callL pg 28 [I n10, I n11, I n36, I n39, I n42, I n15, .agg [I n48, I n49, I n50]] gh44) fun r51 gh52 => unI .i64 r51 fun n53 =>
  idX 1 none (degr (degr v7)) x10 fun p54 => unG p54 fun g55 o56 =>
  ob (ghCells gh52 g55) fun cs57 => gb (stOk 1 o56 [I n53] cs57) (stK 1 v1 (stK 1 v2 (stK 1 v7 (stK 1 v1 (stK 1 v2 (stK 1 v7 (stK 1 v1 (stK 1 v2 (stK 1 v7 (stK 1 v1 (stK 1 v2 (stK 1 v7 (
  kR (runL pg f_ref_ValuesOf_k1 ⟨[(1, v1), (2, v2), (3, .ptr false 0 0), (7, v7), (8, I x8), (9, I x9), (10, I x10)], [[vc0_0, vc0_1, vc0_2, vc0_3, vc0_4]], (List.set gh52 g55 (.cells (spliceAt cs57 o56 [I n53])))⟩) (fun e s => po [1, 2, 3, 7, 8, 9, 10] 1 e s (fun e s => some (e, s)))))))))))))))))))))))))))))))))))))))))) (some ((.exit 0), ⟨[(1, v1), (2, v2), (3, .ptr false 0 0), (7, v7), (8, I x8), (9, I x9), (10, I x10), (20, (B (decide (x10 < (n1 : Int)))))], [[vc0_0, vc0_1, vc0_2, vc0_3, vc0_4]], gh⟩))))))
theorem D_ref_ValuesOf_b1_ok {v1 v2 v7 : PV} {x8 x9 x10 : Int} {vc0_0 vc0_1 : PV} {vc0_2 vc0_3 vc0_4 : PV} (h : D_ref_ValuesOf_b1 pg v1 v2 v7 x8 x9 x10 vc0_0 vc0_1 vc0_2 vc0_3 vc0_4 gh = some (e, s)) : runL pg f_ref_ValuesOf_b1 ⟨[(1, v1), (2, v2), (3, .ptr false 0 0), (7, v7), (8, I x8), (9, I x9), (10, I x10)], [[vc0_0, vc0_1, vc0_2, vc0_3, vc0_4]], gh⟩ = some (e, s) :=
  runX_ok an_ref_ValuesOf (Eq.trans (by kernel_rfl) h)
def D_ref_ValuesOf_k2 (pg : Prg) (v7 : PV) (gh : List GObj) : DR := isC (degr v7) (stK 0 (degr v7) (some (.ret, ⟨[(6, (degr v7))], [], gh⟩)))
theorem D_ref_ValuesOf_k2_ok {v7 : PV} (h : D_ref_ValuesOf_k2 pg v7 gh = some (e, s)) : runL pg f_ref_ValuesOf_k2 ⟨[(7, v7)], [], gh⟩ = some (e, s) :=
  runX_ok an_ref_ValuesOf (Eq.trans (by kernel_rfl) h)
def D_ref_ValuesOf_0 (pg : Prg) (v0_0 v0_1 : PV) (v0_2 v0_3 : PV) (v0_4 v1 v2 : PV) (gh : List GObj) : DR := onK (degr1 v0_0) (onK (degr1 v0_1) (onK (degr1 v0_2) (onK (degr1 v0_3) (onK (degr1 v0_4) (stK 1 v1 (stK 1 v2 (isC (degr (degr1 v0_0)) (lenS (degr (degr (degr1 v0_0))) fun n1 => gd (mkOk (n1 : Int) 8 1 (I 0)) (stK 1 v1 (stK 1 v2 (stK 1 v1 (stK 1 v2 (
  kR (runL pg f_ref_ValuesOf_l1 ⟨[(1, v1), (2, v2), (3, .ptr false 0 0), (7, (.bs true (List.length gh) 0 (Int.toNat (n1 : Int)) 1)), (8, I 0), (9, I 0), (10, I 0)], [[(degr1 v0_0), (degr1 v0_1), (degr1 v0_2), (degr1 v0_3), (degr1 v0_4)]], (gh ++ [.cells (List.flatMap PV.cells (List.replicate (Int.toNat (n1 : Int)) (I 0)))])⟩) (fun e s => nx e s (fun e s => some (e, s)) fun s => kR (runL pg f_ref_ValuesOf_k2 s) (fun e s => some (e, s))))))))))))))))
theorem D_ref_ValuesOf_0_ok {v0_0 v0_1 : PV} {v0_2 v0_3 : PV} {v0_4 v1 v2 : PV} (h : D_ref_ValuesOf_0 pg v0_0 v0_1 v0_2 v0_3 v0_4 v1 v2 gh = some (e, s)) : runL pg f_ref_ValuesOf_0 ⟨[(0, .agg [v0_0, v0_1, v0_2, v0_3, v0_4]), (1, v1), (2, v2)], [], gh⟩ = some (e, s) :=
  runX_ok an_ref_ValuesOf (Eq.trans (by kernel_rfl) h)
end
end Go.Lw
end

/-! What the code of function ref_PairOf comes to, piece by piece. Written by program (dprint.py). -/
section
set_option maxRecDepth 10000
set_option maxHeartbeats 4000000
namespace Go.Lw
open Go
noncomputable section
variable {pg : Prg} {gh : List GObj} {e : IExit} {s : St}
def an_ref_PairOf : Tr := (tI 11 (tI 6 (tI 4 (tI 1 (uO 0) .nil) (uI 5)) (tB 9 (tI 8 (uO 7) .nil) (uI 10))) (tB 18 (tI 16 (tI 13 (uO 12) .nil) (uI 17)) (tI 20 (uO 19) (uI 23))))
def D_ref_PairOf_b1 (pg : Prg) (v0 : PV) (x1 x5 : Int) (gh : List GObj) : DR := isC (degr v0) (lenS (degr (degr v0)) fun n1 => stK 0 v0 (
  br 9 (decide (x5 < (n1 : Int))) (isC (degr v0) (
  idX 2 none (degr (degr v0)) x5 fun p2 => faX (degr p2) 0 fun p3 =>
  ldX [] gh false 1 (degr p3) fun v4 => unI .i64 v4 fun n5 => stK 0 v0 (
  br 18 (n5 == x1) (isC (degr v0) (
  idX 2 none (degr (degr v0)) x5 fun p6 => faX (degr p6) 1 fun p7 =>
  ldX [] gh false 1 (degr p7) fun v8 => unI .i64 v8 fun n9 => some (.ret, ⟨[(4, I n9)], [], gh⟩))) (stK 0 v0 (stK 0 v0 (some (.normal, ⟨[(0, v0), (1, I x1), (5, (I (IntKind.i64.wrap (x5 + 1))))], [], gh⟩))))))) (some ((.exit 0), ⟨[(0, v0), (1, I x1), (5, I x5), (9, (B (decide (x5 < (n1 : Int)))))], [], gh⟩))))
theorem D_ref_PairOf_b1_ok {v0 : PV} {x1 x5 : Int} (h : D_ref_PairOf_b1 pg v0 x1 x5 gh = some (e, s)) : runL pg f_ref_PairOf_b1 ⟨[(0, v0), (1, I x1), (5, I x5)], [], gh⟩ = some (e, s) :=
  runX_ok an_ref_PairOf (Eq.trans (by kernel_rfl) h)
def D_ref_PairOf_k1 (pg : Prg)  (gh : List GObj) : DR := some (.ret, ⟨[(4, (I (-1)))], [], gh⟩)
theorem D_ref_PairOf_k1_ok  (h : D_ref_PairOf_k1 pg  gh = some (e, s)) : runL pg f_ref_PairOf_k1 ⟨[], [], gh⟩ = some (e, s) :=
  runX_ok an_ref_PairOf (Eq.trans (by kernel_rfl) h)
def D_ref_PairOf_0 (pg : Prg) (v0 : PV) (x1 : Int) (gh : List GObj) : DR := stK 0 v0 (stK 0 v0 (
  kR (runL pg f_ref_PairOf_l1 ⟨[(0, v0), (1, I x1), (5, I 0)], [], gh⟩) (fun e s => nx e s (fun e s => some (e, s)) fun s => kR (runL pg f_ref_PairOf_k1 s) (fun e s => some (e, s)))))
theorem D_ref_PairOf_0_ok {v0 : PV} {x1 : Int} (h : D_ref_PairOf_0 pg v0 x1 gh = some (e, s)) : runL pg f_ref_PairOf_0 ⟨[(0, v0), (1, I x1)], [], gh⟩ = some (e, s) :=
  runX_ok an_ref_PairOf (Eq.trans (by kernel_rfl) h)
end
end Go.Lw
end

/-! What the code of function eval_First comes to, piece by piece. Written by program (dprint.py). -/
section
set_option maxRecDepth 10000
set_option maxHeartbeats 4000000
namespace Go.Lw
open Go
noncomputable section
variable {pg : Prg} {gh : List GObj} {e : IExit} {s : St}
def an_eval_First : Tr := (tI 34 (.node 17 (.agg [.any, .any, .any, .any, .any]) (tO 10 (tO 5 (tO 1 (.node 0 (.agg [.any, .any, .any, .any, .any]) .nil .nil) (uO 4)) (tO 7 (uO 6) .nil)) (tB 14 (tI 12 (uI 11) (uI 13)) (tO 16 (.node 15 (.agg [.any, .any, .any, .any, .any]) .nil .nil) .nil))) (tO 24 (tO 21 (tO 19 (uO 18) (.node 20 (.agg [.any, .any, .any, .any, .any]) .nil .nil)) (tO 23 (uO 22) .nil)) (tB 29 (tI 27 (uO 26) (uI 28)) (tO 32 (.node 31 (.agg [.int .i64, .int .i64]) .nil .nil) .nil)))) (.node 51 (.tup 2) (tI 43 (tI 40 (tI 37 (uO 35) (uI 39)) (tI 42 (uO 41) .nil)) (.node 48 (.tup 2) (tI 45 (uB 44) (uI 47)) (tI 50 (uO 49) .nil))) (tI 59 (tB 55 (tB 53 (uI 52) (uB 54)) (tI 57 (uO 56) .nil)) (tO 63 (tI 61 (uO 60) (uO 62)) (tO 65 (uI 64) .nil)))))
def D_eval_First_b1 (pg : Prg) (v1 v5 : PV) (v6 v7 v26 : PV) (x27 x28 : Int) (gh : List GObj) : DR :=
  br 29 (decide (x28 < x27)) (
  idX 2 none (degr v26) x28 fun p1 =>
  ldX [] gh true 2 (degr p1) fun v2 => unA 2 v2 fun c3 c4 => unI .i64 c3 fun n5 => unI .i64 c4 fun n6 => stK 1 v1 (stK 1 v5 (stK 1 v6 (stK 1 v7 (stK 1 v26 (isC (degr v7) (isC (degr v6) (
  idX 1 none (degr (degr v6)) n6 fun p7 =>
  ldX [[I n5, I n6]] gh false 1 (degr p7) fun v8 => unI .i64 v8 fun n9 =>
  muX gh 0 (degr (degr v7)) (I n5) (I n9) fun gh10 => stK 0 v1 (stK 0 v5 (stK 0 v6 (stK 0 v7 (stK 0 v26 (stK 0 v1 (stK 0 v5 (stK 0 v6 (stK 0 v7 (stK 0 v26 (stK 0 v1 (stK 0 v5 (stK 0 v6 (stK 0 v7 (stK 0 v26 (some (.normal, ⟨[(1, v1), (5, v5), (6, v6), (7, v7), (26, v26), (27, I x27), (28, (I (IntKind.i64.wrap (x28 + 1))))], [], gh10⟩)))))))))))))))))))))))) (some ((.exit 0), ⟨[(1, v1), (5, v5), (6, v6), (7, v7), (26, v26), (27, I x27), (28, I x28), (29, (B (decide (x28 < x27))))], [], gh⟩))
theorem D_eval_First_b1_ok {v1 v5 : PV} {v6 v7 v26 : PV} {x27 x28 : Int} (h : D_eval_First_b1 pg v1 v5 v6 v7 v26 x27 x28 gh = some (e, s)) : runL pg f_eval_First_b1 ⟨[(1, v1), (5, v5), (6, v6), (7, v7), (26, v26), (27, I x27), (28, I x28)], [], gh⟩ = some (e, s) :=
  runX_ok an_eval_First (Eq.trans (by kernel_rfl) h)
def D_eval_First_k2 (pg : Prg) (v1 v7 v10 : PV) (x13 : Int) (v41 : PV) (x42 x43 : Int) (gh : List GObj) : DR :=
  apX 1 8 v10 (.sl false 1 [I x13]) fun l1 => stK 0 v1 (stK 0 v7 (stK 0 v41 (some (.normal, ⟨[(1, v1), (7, v7), (10, .sl true 1 l1), (41, v41), (42, I x42), (43, I x43)], [], gh⟩))))
theorem D_eval_First_k2_ok {v1 v7 v10 : PV} {x13 : Int} {v41 : PV} {x42 x43 : Int} (h : D_eval_First_k2 pg v1 v7 v10 x13 v41 x42 x43 gh = some (e, s)) : runL pg f_eval_First_k2 ⟨[(1, v1), (7, v7), (10, v10), (13, I x13), (41, v41), (42, I x42), (43, I x43)], [], gh⟩ = some (e, s) :=
  runX_ok an_eval_First (Eq.trans (by kernel_rfl) h)
def D_eval_First_k3 (pg : Prg) (v1 v7 : PV) (v10 v41 : PV) (x42 x43 : Int) (gh : List GObj) : DR := stK 0 v1 (stK 0 v7 (stK 0 v10 (stK 0 v41 (some (.normal, ⟨[(1, v1), (7, v7), (10, v10), (41, v41), (42, I x42), (43, (I (IntKind.i64.wrap (x43 + 1))))], [], gh⟩)))))
theorem D_eval_First_k3_ok {v1 v7 : PV} {v10 v41 : PV} {x42 x43 : Int} (h : D_eval_First_k3 pg v1 v7 v10 v41 x42 x43 gh = some (e, s)) : runL pg f_eval_First_k3 ⟨[(1, v1), (7, v7), (10, v10), (41, v41), (42, I x42), (43, I x43)], [], gh⟩ = some (e, s) :=
  runX_ok an_eval_First (Eq.trans (by kernel_rfl) h)
def D_eval_First_b2 (pg : Prg) (v1 v7 : PV) (v10 v41 : PV) (x42 x43 : Int) (gh : List GObj) : DR :=
  br 44 (decide (x43 < x42)) (
  idX 1 none (degr v41) x43 fun p1 =>
  ldX [] gh false 1 (degr p1) fun v2 => unI .i64 v2 fun n3 => stK 0 v1 (stK 0 v7 (stK 0 v10 (stK 0 v41 (isC (degr v7) (
  lkX gh 0 (degr (degr v7)) (I n3) fun r4 => unI .i64 (degr1 (degr1 (Option.getD r4 (I 0)))) fun n5 => stK 0 v1 (stK 0 v7 (stK 0 v10 (stK 0 v41 (stK 0 v1 (stK 0 v7 (stK 0 v10 (stK 0 v41 (
  br 55 (!(Option.isSome r4)) (isC (degr v1) (
  idX 1 none (degr (degr v1)) x43 fun p6 =>
  ldX [] gh false 1 (degr p6) fun v8 => unI .i64 v8 fun n9 => stK 0 v1 (stK 0 v7 (stK 0 v10 (stK 0 v41 (stK 0 v1 (stK 0 v7 (stK 0 v10 (stK 0 v41 (
  kR (runL pg f_eval_First_k2 ⟨[(1, v1), (7, v7), (10, v10), (13, I n9), (41, v41), (42, I x42), (43, I x43)], [], gh⟩) (fun e s => bk 3 e s (fun e s => nx e s (fun e s => po [1, 7, 10, 41, 42, 43] 0 e s (fun e s => some (e, s))) fun s => kR (runL pg f_eval_First_k3 s) (fun e s => po [1, 7, 10, 41, 42, 43] 0 e s (fun e s => some (e, s))))))))))))))) (stK 0 v1 (stK 0 v7 (stK 0 v10 (stK 0 v41 (
  kR (runL pg f_eval_First_k2 ⟨[(1, v1), (7, v7), (10, v10), (13, I n5), (41, v41), (42, I x42), (43, I x43)], [], gh⟩) (fun e s => bk 3 e s (fun e s => nx e s (fun e s => po [1, 7, 10, 41, 42, 43] 0 e s (fun e s => some (e, s))) fun s => kR (runL pg f_eval_First_k3 s) (fun e s => po [1, 7, 10, 41, 42, 43] 0 e s (fun e s => some (e, s)))))))))))))))))))))))) (some ((.exit 2), ⟨[(1, v1), (7, v7), (10, v10), (41, v41), (42, I x42), (43, I x43), (44, (B (decide (x43 < x42))))], [], gh⟩))
theorem D_eval_First_b2_ok {v1 v7 : PV} {v10 v41 : PV} {x42 x43 : Int} (h : D_eval_First_b2 pg v1 v7 v10 v41 x42 x43 gh = some (e, s)) : runL pg f_eval_First_b2 ⟨[(1, v1), (7, v7), (10, v10), (41, v41), (42, I x42), (43, I x43)], [], gh⟩ = some (e, s) :=
  runX_ok an_eval_First (Eq.trans (by kernel_rfl) h)
def D_eval_First_k4 (pg : Prg) (v10 : PV) (gh : List GObj) : DR := isC (degr v10) (stK 0 (degr v10) (some (.ret, ⟨[(4, (degr v10))], [], gh⟩)))
theorem D_eval_First_k4_ok {v10 : PV} (h : D_eval_First_k4 pg v10 gh = some (e, s)) : runL pg f_eval_First_k4 ⟨[(10, v10)], [], gh⟩ = some (e, s) :=
  runX_ok an_eval_First (Eq.trans (by kernel_rfl) h)
def D_eval_First_k1 (pg : Prg) (v1 v5 v7 : PV) (gh : List GObj) : DR := isC (degr v5) (lenS (degr (degr v5)) fun n1 => stK 0 v1 (stK 0 v7 (stK 0 (degr v5) (
  kR (runL pg f_eval_First_l2 ⟨[(1, v1), (7, v7), (10, .sl true 1 []), (41, (degr v5)), (42, (I (n1 : Int))), (43, I 0)], [], gh⟩) (fun e s => nx e s (fun e s => some (e, s)) fun s => kR (runL pg f_eval_First_k4 s) (fun e s => some (e, s)))))))
theorem D_eval_First_k1_ok {v1 v5 v7 : PV} (h : D_eval_First_k1 pg v1 v5 v7 gh = some (e, s)) : runL pg f_eval_First_k1 ⟨[(1, v1), (5, v5), (7, v7)], [], gh⟩ = some (e, s) :=
  runX_ok an_eval_First (Eq.trans (by kernel_rfl) h)
def D_eval_First_0 (pg : Prg) (v0_0 v0_1 : PV) (v0_2 v0_3 : PV) (v0_4 v1 : PV) (gh : List GObj) : DR := onK (degr1 v0_0) (onK (degr1 v0_1) (onK (degr1 v0_2) (onK (degr1 v0_3) (onK (degr1 v0_4) (stK 1 v1 (onK (degr1 (degr1 (degr1 v0_0))) (onK (degr1 (degr1 (degr1 v0_1))) (onK (degr1 (degr1 (degr1 v0_2))) (onK (degr1 (degr1 (degr1 v0_3))) (onK (degr1 (degr1 (degr1 v0_4))) (
  callR gh true (callL pg 101 [(.agg [(degr1 (degr1 (degr1 v0_0))), (degr1 (degr1 (degr1 v0_1))), (degr1 (degr1 (degr1 v0_2))), (degr1 (degr1 (degr1 v0_3))), (degr1 (degr1 (degr1 v0_4)))]), I 3] gh) fun r1 gh2 => isC r1 (stK 1 v1 (stK 1 r1 (isC (degr r1) (arK (degr (degr r1)) (
  callR gh2 true (callL pg 142 [(degr (degr r1))] gh2) fun r3 gh4 => isC r3 (onK (degr1 (degr1 (degr1 v0_0))) (onK (degr1 (degr1 (degr1 v0_1))) (onK (degr1 (degr1 (degr1 v0_2))) (onK (degr1 (degr1 (degr1 v0_3))) (onK (degr1 (degr1 (degr1 v0_4))) (
  callR gh4 true (callL pg 101 [(.agg [(degr1 (degr1 (degr1 v0_0))), (degr1 (degr1 (degr1 v0_1))), (degr1 (degr1 (degr1 v0_2))), (degr1 (degr1 (degr1 v0_3))), (degr1 (degr1 (degr1 v0_4)))]), I 2] gh4) fun r5 gh6 => isC r5 (arK (degr r5) (
  callR gh6 true (callL pg 142 [(degr r5)] gh6) fun r7 gh8 => isC r7 (onK (degr1 (degr1 (degr1 v0_0))) (onK (degr1 (degr1 (degr1 v0_1))) (onK (degr1 (degr1 (degr1 v0_2))) (onK (degr1 (degr1 (degr1 v0_3))) (onK (degr1 (degr1 (degr1 v0_4))) (arK (degr r3) (arK (degr r7) (
  callR gh8 true (callL pg 139 [(.agg [(degr1 (degr1 (degr1 v0_0))), (degr1 (degr1 (degr1 v0_1))), (degr1 (degr1 (degr1 v0_2))), (degr1 (degr1 (degr1 v0_3))), (degr1 (degr1 (degr1 v0_4)))]), (degr r3), (degr r7)] gh8) fun r9 gh10 => isC r9 (stK 1 v1 (stK 1 r1 (stK 1 r9 (stK 1 v1 (stK 1 r1 (stK 1 r9 (isC (degr (degr1 v0_1)) (lenS (degr (degr (degr1 v0_1))) fun n11 => stK 0 v1 (stK 0 r1 (stK 0 r9 (stK 0 (degr (degr1 v0_1)) (
  kR (runL pg f_eval_First_l1 ⟨[(1, v1), (5, r1), (6, r9), (7, (.mp (List.length gh10))), (26, (degr (degr1 v0_1))), (27, (I (n11 : Int))), (28, I 0)], [], (gh10 ++ [.map []])⟩) (fun e s => nx e s (fun e s => some (e, s)) fun s => kR (runL pg f_eval_First_k1 s) (fun e s => some (e, s)))))))))))))))))))))))))))))))))))))))))))))))
theorem D_eval_First_0_ok {v0_0 v0_1 : PV} {v0_2 v0_3 : PV} {v0_4 v1 : PV} (h : D_eval_First_0 pg v0_0 v0_1 v0_2 v0_3 v0_4 v1 gh = some (e, s)) : runL pg f_eval_First_0 ⟨[(0, .agg [v0_0, v0_1, v0_2, v0_3, v0_4]), (1, v1)], [], gh⟩ = some (e, s) :=
  runX_ok an_eval_First (Eq.trans (by kernel_rfl) h)
end
end Go.Lw
end

/-! What the code of function eval_Begin comes to, piece by piece. Written by program (dprint.py). -/
section
set_option maxRecDepth 10000
set_option maxHeartbeats 4000000
namespace Go.Lw
open Go
noncomputable section
variable {pg : Prg} {gh : List GObj} {e : IExit} {s : St}
def an_eval_Begin : Tr := (.node 12 (.agg [.any, .any, .any, .any, .any]) (.node 7 (.agg [.any, .any, .any, .any, .any]) (tO 4 (tO 1 (.node 0 (.agg [.any, .any, .any, .any, .any]) .nil .nil) .nil) (tI 6 (uI 5) .nil)) (tB 10 (tI 9 (uI 8) .nil) (.node 11 (.agg [.any, .any, .any, .any, .any]) .nil .nil))) (tB 17 (tI 15 (tO 14 (uO 13) .nil) (uI 16)) (tO 20 (.node 19 (.agg [.any, .any, .any, .any, .any]) (uI 18) .nil) (uO 21))))
def D_eval_Begin_k1 (pg : Prg) (v1 : PV) (x6 : Int) (vc0_0 vc0_1 : PV) (vc0_2 vc0_3 vc0_4 : PV) (gh : List GObj) : DR := stK 1 v1 (
  br 17 (x6 != 0) (some (.ret, ⟨[(4, .sl true 1 []), (5, I x6)], [], gh⟩)) (isC (degr v1) (onK (degr1 (degr1 vc0_0)) (onK (degr1 (degr1 vc0_1)) (onK (degr1 (degr1 vc0_2)) (onK (degr1 (degr1 vc0_3)) (onK (degr1 (degr1 vc0_4)) (arK (degr (degr v1)) (
  callR gh true (callL pg 136 [(.agg [(degr1 (degr1 vc0_0)), (degr1 (degr1 vc0_1)), (degr1 (degr1 vc0_2)), (degr1 (degr1 vc0_3)), (degr1 (degr1 vc0_4))]), (degr (degr v1))] gh) fun r1 gh2 => isC r1 (stK 0 r1 (some (.ret, ⟨[(4, r1), (5, I 0)], [], gh2⟩))))))))))))
theorem D_eval_Begin_k1_ok {v1 : PV} {x6 : Int} {vc0_0 vc0_1 : PV} {vc0_2 vc0_3 vc0_4 : PV} (h : D_eval_Begin_k1 pg v1 x6 vc0_0 vc0_1 vc0_2 vc0_3 vc0_4 gh = some (e, s)) : runL pg f_eval_Begin_k1 ⟨[(1, v1), (2, .ptr false 0 0), (6, I x6)], [[vc0_0, vc0_1, vc0_2, vc0_3, vc0_4]], gh⟩ = some (e, s) :=
  runX_ok an_eval_Begin (Eq.trans (by kernel_rfl) h)
def D_eval_Begin_0 (pg : Prg) (v0_0 v0_1 : PV) (v0_2 v0_3 : PV) (v0_4 v1 : PV) (gh : List GObj) : DR := onK (degr1 v0_0) (onK (degr1 v0_1) (onK (degr1 v0_2) (onK (degr1 v0_3) (onK (degr1 v0_4) (stK 1 v1 (onK (degr1 (degr1 (degr1 v0_0))) (onK (degr1 (degr1 (degr1 v0_1))) (onK (degr1 (degr1 (degr1 v0_2))) (onK (degr1 (degr1 (degr1 v0_3))) (onK (degr1 (degr1 (degr1 v0_4))) (
  callR gh true (callL pg 38 [(.agg [(degr1 (degr1 (degr1 v0_0))), (degr1 (degr1 (degr1 v0_1))), (degr1 (degr1 (degr1 v0_2))), (degr1 (degr1 (degr1 v0_3))), (degr1 (degr1 (degr1 v0_4)))])] gh) fun r1 gh2 => unI .i64 r1 fun n3 => stK 1 v1 (stK 1 v1 (
  br 10 (n3 == 0) (onK (degr1 (degr1 (degr1 v0_0))) (onK (degr1 (degr1 (degr1 v0_1))) (onK (degr1 (degr1 (degr1 v0_2))) (onK (degr1 (degr1 (degr1 v0_3))) (onK (degr1 (degr1 (degr1 v0_4))) (
  callR gh2 true (callL pg 101 [(.agg [(degr1 (degr1 (degr1 v0_0))), (degr1 (degr1 (degr1 v0_1))), (degr1 (degr1 (degr1 v0_2))), (degr1 (degr1 (degr1 v0_3))), (degr1 (degr1 (degr1 v0_4)))]), I 3] gh2) fun r4 gh5 => isC r4 (isC (degr v1) (onK (degr1 (degr1 (degr1 v0_0))) (onK (degr1 (degr1 (degr1 v0_1))) (onK (degr1 (degr1 (degr1 v0_2))) (onK (degr1 (degr1 (degr1 v0_3))) (onK (degr1 (degr1 (degr1 v0_4))) (arK (degr r4) (arK (degr (degr v1)) (
  callR gh5 true (callL pg 135 [(.agg [(degr1 (degr1 (degr1 v0_0))), (degr1 (degr1 (degr1 v0_1))), (degr1 (degr1 (degr1 v0_2))), (degr1 (degr1 (degr1 v0_3))), (degr1 (degr1 (degr1 v0_4)))]), (degr r4), (degr (degr v1))] gh5) fun r6 gh7 => unI .i64 r6 fun n8 => stK 1 v1 (stK 1 v1 (
  kR (runL pg f_eval_Begin_k1 ⟨[(1, v1), (2, .ptr false 0 0), (6, I n8)], [[(degr1 v0_0), (degr1 v0_1), (degr1 v0_2), (degr1 v0_3), (degr1 v0_4)]], gh7⟩) (fun e s => some (e, s))))))))))))))))))) (stK 1 v1 (
  kR (runL pg f_eval_Begin_k1 ⟨[(1, v1), (2, .ptr false 0 0), (6, I n3)], [[(degr1 v0_0), (degr1 v0_1), (degr1 v0_2), (degr1 v0_3), (degr1 v0_4)]], gh2⟩) (fun e s => some (e, s)))))))))))))))))
theorem D_eval_Begin_0_ok {v0_0 v0_1 : PV} {v0_2 v0_3 : PV} {v0_4 v1 : PV} (h : D_eval_Begin_0 pg v0_0 v0_1 v0_2 v0_3 v0_4 v1 gh = some (e, s)) : runL pg f_eval_Begin_0 ⟨[(0, .agg [v0_0, v0_1, v0_2, v0_3, v0_4]), (1, v1)], [], gh⟩ = some (e, s) :=
  runX_ok an_eval_Begin (Eq.trans (by kernel_rfl) h)
end
end Go.Lw
end

/-! What the code of function eval_Next comes to, piece by piece. Written by program (dprint.py). -/
section
set_option maxRecDepth 10000
set_option maxHeartbeats 4000000
namespace Go.Lw
open Go
noncomputable section
variable {pg : Prg} {gh : List GObj} {e : IExit} {s : St}
def an_eval_Next : Tr := (tI 26 (tI 14 (tO 8 (tO 4 (tO 1 (.node 0 (.agg [.any, .any, .any, .any, .any]) .nil .nil) .nil) (uO 5)) (tO 11 (uI 10) (uO 13))) (tO 19 (tB 16 (uI 15) (.node 18 (.agg [.int .i64, .int .i64]) .nil .nil)) (tO 22 (uI 21) (uI 24)))) (tO 35 (tI 30 (.node 28 (.agg [.any, .any, .any, .any, .any]) (uI 27) (uO 29)) (tB 32 (uI 31) (uI 34))) (tO 39 (tI 37 (uO 36) (uI 38)) (tI 41 (uO 40) (uO 42)))))
def D_eval_Next_b1 (pg : Prg) (v1 v5 v13 : PV) (x14 x15 : Int) (vc0_0 vc0_1 : PV) (vc0_2 vc0_3 vc0_4 : PV) (gh : List GObj) : DR :=
  br 16 (decide (x15 < x14)) (
  idX 2 none (degr v13) x15 fun p1 =>
  ldX [[vc0_0, vc0_1, vc0_2, vc0_3, vc0_4]] gh true 2 (degr p1) fun v2 => unA 2 v2 fun c3 c4 => unI .i64 c3 fun n5 => unI .i64 c4 fun n6 => stK 2 v1 (stK 2 v5 (stK 2 v13 (isC (degr v5) (isC (degr v1) (
  idX 1 none (degr (degr v1)) n6 fun p7 =>
  ldX [[vc0_0, vc0_1, vc0_2, vc0_3, vc0_4], [I n5, I n6]] gh false 1 (degr p7) fun v8 => unI .i64 v8 fun n9 =>
  muX gh 0 (degr (degr v5)) (I n5) (I n9) fun gh10 => stK 1 v1 (stK 1 v5 (stK 1 v13 (stK 1 v1 (stK 1 v5 (stK 1 v13 (stK 1 v1 (stK 1 v5 (stK 1 v13 (some (.normal, ⟨[(1, v1), (2, .ptr false 0 0), (5, v5), (13, v13), (14, I x14), (15, (I (IntKind.i64.wrap (x15 + 1))))], [[vc0_0, vc0_1, vc0_2, vc0_3, vc0_4]], gh10⟩)))))))))))))))) (some ((.exit 0), ⟨[(1, v1), (2, .ptr false 0 0), (5, v5), (13, v13), (14, I x14), (15, I x15), (16, (B (decide (x15 < x14))))], [[vc0_0, vc0_1, vc0_2, vc0_3, vc0_4]], gh⟩))
theorem D_eval_Next_b1_ok {v1 v5 v13 : PV} {x14 x15 : Int} {vc0_0 vc0_1 : PV} {vc0_2 vc0_3 vc0_4 : PV} (h : D_eval_Next_b1 pg v1 v5 v13 x14 x15 vc0_0 vc0_1 vc0_2 vc0_3 vc0_4 gh = some (e, s)) : runL pg f_eval_Next_b1 ⟨[(1, v1), (2, .ptr false 0 0), (5, v5), (13, v13), (14, I x14), (15, I x15)], [[vc0_0, vc0_1, vc0_2, vc0_3, vc0_4]], gh⟩ = some (e, s) :=
  runX_ok an_eval_Next (Eq.trans (by kernel_rfl) h)
def D_eval_Next_b2 (pg : Prg) (v5 v8 v29 : PV) (x30 x31 : Int) (gh : List GObj) : DR :=
  br 32 (decide (x31 < x30)) (
  idX 1 none (degr v29) x31 fun p1 =>
  ldX [] gh false 1 (degr p1) fun v2 => unI .i64 v2 fun n3 => stK 0 v5 (stK 0 v8 (stK 0 v29 (isC (degr v5) (
  lkX gh 0 (degr (degr v5)) (I n3) fun r4 => unI .i64 (Option.getD r4 (I 0)) fun n5 =>
  apX 1 8 v8 (.sl false 1 [I n5]) fun l6 => stK 0 v5 (stK 0 v29 (stK 0 v5 (stK 0 v29 (stK 0 v5 (stK 0 v29 (some (.normal, ⟨[(5, v5), (8, .sl true 1 l6), (29, v29), (30, I x30), (31, (I (IntKind.i64.wrap (x31 + 1))))], [], gh⟩)))))))))))) (some ((.exit 2), ⟨[(5, v5), (8, v8), (29, v29), (30, I x30), (31, I x31), (32, (B (decide (x31 < x30))))], [], gh⟩))
theorem D_eval_Next_b2_ok {v5 v8 v29 : PV} {x30 x31 : Int} (h : D_eval_Next_b2 pg v5 v8 v29 x30 x31 gh = some (e, s)) : runL pg f_eval_Next_b2 ⟨[(5, v5), (8, v8), (29, v29), (30, I x30), (31, I x31)], [], gh⟩ = some (e, s) :=
  runX_ok an_eval_Next (Eq.trans (by kernel_rfl) h)
def D_eval_Next_k2 (pg : Prg) (v8 : PV) (gh : List GObj) : DR := isC (degr v8) (stK 0 (degr v8) (some (.ret, ⟨[(4, (degr v8))], [], gh⟩)))
theorem D_eval_Next_k2_ok {v8 : PV} (h : D_eval_Next_k2 pg v8 gh = some (e, s)) : runL pg f_eval_Next_k2 ⟨[(8, v8)], [], gh⟩ = some (e, s) :=
  runX_ok an_eval_Next (Eq.trans (by kernel_rfl) h)
def D_eval_Next_k1 (pg : Prg) (v5 vc0_0 : PV) (vc0_1 vc0_2 : PV) (vc0_3 vc0_4 : PV) (gh : List GObj) : DR := onK (degr1 (degr1 vc0_0)) (onK (degr1 (degr1 vc0_1)) (onK (degr1 (degr1 vc0_2)) (onK (degr1 (degr1 vc0_3)) (onK (degr1 (degr1 vc0_4)) (
  callR gh true (callL pg 101 [(.agg [(degr1 (degr1 vc0_0)), (degr1 (degr1 vc0_1)), (degr1 (degr1 vc0_2)), (degr1 (degr1 vc0_3)), (degr1 (degr1 vc0_4))]), I 3] gh) fun r1 gh2 => isC r1 (lenS (degr r1) fun n3 => stK 0 v5 (stK 0 r1 (
  kR (runL pg f_eval_Next_l2 ⟨[(5, v5), (8, .sl true 1 []), (29, r1), (30, (I (n3 : Int))), (31, I 0)], [], gh2⟩) (fun e s => nx e s (fun e s => some (e, s)) fun s => kR (runL pg f_eval_Next_k2 s) (fun e s => some (e, s)))))))))))
theorem D_eval_Next_k1_ok {v5 vc0_0 : PV} {vc0_1 vc0_2 : PV} {vc0_3 vc0_4 : PV} (h : D_eval_Next_k1 pg v5 vc0_0 vc0_1 vc0_2 vc0_3 vc0_4 gh = some (e, s)) : runL pg f_eval_Next_k1 ⟨[(2, .ptr false 0 0), (5, v5)], [[vc0_0, vc0_1, vc0_2, vc0_3, vc0_4]], gh⟩ = some (e, s) :=
  runX_ok an_eval_Next (Eq.trans (by kernel_rfl) h)
def D_eval_Next_0 (pg : Prg) (v0_0 v0_1 : PV) (v0_2 v0_3 : PV) (v0_4 v1 : PV) (gh : List GObj) : DR := onK (degr1 v0_0) (onK (degr1 v0_1) (onK (degr1 v0_2) (onK (degr1 v0_3) (onK (degr1 v0_4) (stK 1 v1 (stK 1 v1 (isC (degr (degr1 v0_2)) (lenS (degr (degr (degr1 v0_2))) fun n1 => stK 1 v1 (stK 1 (degr (degr1 v0_2)) (
  kR (runL pg f_eval_Next_l1 ⟨[(1, v1), (2, .ptr false 0 0), (5, (.mp (List.length gh))), (13, (degr (degr1 v0_2))), (14, (I (n1 : Int))), (15, I 0)], [[(degr1 v0_0), (degr1 v0_1), (degr1 v0_2), (degr1 v0_3), (degr1 v0_4)]], (gh ++ [.map []])⟩) (fun e s => nx e s (fun e s => some (e, s)) fun s => kR (runL pg f_eval_Next_k1 s) (fun e s => some (e, s)))))))))))))
theorem D_eval_Next_0_ok {v0_0 v0_1 : PV} {v0_2 v0_3 : PV} {v0_4 v1 : PV} (h : D_eval_Next_0 pg v0_0 v0_1 v0_2 v0_3 v0_4 v1 gh = some (e, s)) : runL pg f_eval_Next_0 ⟨[(0, .agg [v0_0, v0_1, v0_2, v0_3, v0_4]), (1, v1)], [], gh⟩ = some (e, s) :=
  runX_ok an_eval_Next (Eq.trans (by kernel_rfl) h)
end
end Go.Lw
end

/-! What the code of function ref_NextOf comes to, piece by piece. Written by program (dprint.py). -/
section
set_option maxRecDepth 10000
set_option maxHeartbeats 4000000
namespace Go.Lw
open Go
noncomputable section
variable {pg : Prg} {gh : List GObj} {e : IExit} {s : St}
def an_ref_NextOf : Tr := (tI 14 (.node 8 (.agg [.any, .any, .any, .any, .any]) (tO 5 (tO 1 (.node 0 (.agg [.any, .any, .any, .any, .any]) .nil .nil) (uO 4)) (tI 7 (uO 6) .nil)) (tO 11 (tI 10 (uO 9) .nil) (tB 13 (uI 12) .nil))) (tI 23 (tO 19 (tO 16 (uI 15) (uO 17)) (tI 21 (uO 20) .nil)) (tO 27 (tI 26 (uI 24) .nil) (tO 29 (uO 28) .nil))))
def D_ref_NextOf_b1 (pg : Prg) (v1 v5 v6 : PV) (x7 : Int) (vc0_0 vc0_1 : PV) (vc0_2 vc0_3 vc0_4 : PV) (gh : List GObj) : DR := isC (degr v5) (lenS (degr (degr v5)) fun n1 => stK 1 v1 (stK 1 v5 (stK 1 v6 (
  br 13 (decide (x7 < (n1 : Int))) (isC (degr v1) (isC (degr vc0_2) (isC (degr v5) (
  idX 1 none (degr (degr v5)) x7 fun p2 =>
  ldX [[vc0_0, vc0_1, vc0_2, vc0_3, vc0_4]] gh false 1 (degr p2) fun v3 => unI .i64 v3 fun n4 => arK (degr (degr vc0_2)) (
  callR gh true (callL pg 137 [(degr (degr vc0_2)), I n4] gh) fun r5 gh6 => unI .i64 r5 fun n7 =>
  idX 1 none (degr (degr v1)) n7 fun p8 =>
  ldX [[vc0_0, vc0_1, vc0_2, vc0_3, vc0_4]] gh6 false 1 (degr p8) fun v9 => unI .i64 v9 fun n10 =>
  apX 1 8 v6 (.sl false 1 [I n10]) fun l11 => stK 1 v1 (stK 1 v5 (stK 1 v1 (stK 1 v5 (stK 1 v1 (stK 1 v5 (some (.normal, ⟨[(1, v1), (2, .ptr false 0 0), (5, v5), (6, .sl true 1 l11), (7, (I (IntKind.i64.wrap (x7 + 1))))], [[vc0_0, vc0_1, vc0_2, vc0_3, vc0_4]], gh6⟩)))))))))))) (some ((.exit 0), ⟨[(1, v1), (2, .ptr false 0 0), (5, v5), (6, v6), (7, I x7), (13, (B (decide (x7 < (n1 : Int)))))], [[vc0_0, vc0_1, vc0_2, vc0_3, vc0_4]], gh⟩))))))
theorem D_ref_NextOf_b1_ok {v1 v5 v6 : PV} {x7 : Int} {vc0_0 vc0_1 : PV} {vc0_2 vc0_3 vc0_4 : PV} (h : D_ref_NextOf_b1 pg v1 v5 v6 x7 vc0_0 vc0_1 vc0_2 vc0_3 vc0_4 gh = some (e, s)) : runL pg f_ref_NextOf_b1 ⟨[(1, v1), (2, .ptr false 0 0), (5, v5), (6, v6), (7, I x7)], [[vc0_0, vc0_1, vc0_2, vc0_3, vc0_4]], gh⟩ = some (e, s) :=
  runX_ok an_ref_NextOf (Eq.trans (by kernel_rfl) h)
def D_ref_NextOf_k1 (pg : Prg) (v6 : PV) (gh : List GObj) : DR := isC (degr v6) (stK 0 (degr v6) (some (.ret, ⟨[(4, (degr v6))], [], gh⟩)))
theorem D_ref_NextOf_k1_ok {v6 : PV} (h : D_ref_NextOf_k1 pg v6 gh = some (e, s)) : runL pg f_ref_NextOf_k1 ⟨[(6, v6)], [], gh⟩ = some (e, s) :=
  runX_ok an_ref_NextOf (Eq.trans (by kernel_rfl) h)
def D_ref_NextOf_0 (pg : Prg) (v0_0 v0_1 : PV) (v0_2 v0_3 : PV) (v0_4 v1 : PV) (gh : List GObj) : DR := onK (degr1 v0_0) (onK (degr1 v0_1) (onK (degr1 v0_2) (onK (degr1 v0_3) (onK (degr1 v0_4) (stK 1 v1 (onK (degr1 (degr1 (degr1 v0_0))) (onK (degr1 (degr1 (degr1 v0_1))) (onK (degr1 (degr1 (degr1 v0_2))) (onK (degr1 (degr1 (degr1 v0_3))) (onK (degr1 (degr1 (degr1 v0_4))) (
  callR gh true (callL pg 39 [(.agg [(degr1 (degr1 (degr1 v0_0))), (degr1 (degr1 (degr1 v0_1))), (degr1 (degr1 (degr1 v0_2))), (degr1 (degr1 (degr1 v0_3))), (degr1 (degr1 (degr1 v0_4)))]), I 3] gh) fun r1 gh2 => isC r1 (stK 1 v1 (stK 1 r1 (stK 1 v1 (stK 1 r1 (
  kR (runL pg f_ref_NextOf_l1 ⟨[(1, v1), (2, .ptr false 0 0), (5, r1), (6, .sl true 1 []), (7, I 0)], [[(degr1 v0_0), (degr1 v0_1), (degr1 v0_2), (degr1 v0_3), (degr1 v0_4)]], gh2⟩) (fun e s => nx e s (fun e s => some (e, s)) fun s => kR (runL pg f_ref_NextOf_k1 s) (fun e s => some (e, s)))))))))))))))))))
theorem D_ref_NextOf_0_ok {v0_0 v0_1 : PV} {v0_2 v0_3 : PV} {v0_4 v1 : PV} (h : D_ref_NextOf_0 pg v0_0 v0_1 v0_2 v0_3 v0_4 v1 gh = some (e, s)) : runL pg f_ref_NextOf_0 ⟨[(0, .agg [v0_0, v0_1, v0_2, v0_3, v0_4]), (1, v1)], [], gh⟩ = some (e, s) :=
  runX_ok an_ref_NextOf (Eq.trans (by kernel_rfl) h)
end
end Go.Lw
end

/-! What the code of function eval_Marks comes to, piece by piece. Written by program (dprint.py). -/
section
set_option maxRecDepth 10000
set_option maxHeartbeats 4000000
namespace Go.Lw
open Go
noncomputable section
variable {pg : Prg} {gh : List GObj} {e : IExit} {s : St}
def an_eval_Marks : Tr := (tB 25 (tI 14 (tB 6 (tB 4 (tO 1 (.node 0 (.agg [.any, .any, .any, .any, .any]) .nil .nil) .nil) (uB 5)) (tI 11 (tI 9 (uB 7) .nil) (uO 13))) (tB 20 (tI 18 (tB 16 (uI 15) .nil) (uB 19)) (tI 22 (uO 21) (uI 24)))) (tB 36 (tI 31 (tO 29 (tI 27 (uB 26) .nil) (uI 30)) (tI 34 (uB 32) (uB 35))) (tB 42 (tI 40 (tI 38 (uO 37) .nil) (uB 41)) (tB 44 (uI 43) (uB 45)))))
def D_eval_Marks_b1 (pg : Prg) (v1 : PV) (b6 b7 : Bool) (v13 : PV) (x14 x15 : Int) (vc0_0 vc0_1 : PV) (vc0_2 vc0_3 vc0_4 : PV) (gh : List GObj) : DR :=
  br 16 (decide (x15 < x14)) (
  idX 1 none (degr v13) x15 fun p1 =>
  ldX [[vc0_0, vc0_1, vc0_2, vc0_3, vc0_4]] gh false 1 (degr p1) fun v2 => unI .i64 v2 fun n3 => stK 1 v1 (stK 1 v13 (
  br 20 b6 (isC (degr v1) (
  idX 1 none (degr (degr v1)) n3 fun p4 =>
  ldX [[vc0_0, vc0_1, vc0_2, vc0_3, vc0_4]] gh false 1 (degr p4) fun v5 => unI .i64 v5 fun n6 => stK 1 v1 (stK 1 v13 (stK 1 v1 (stK 1 v13 (stK 1 v1 (stK 1 v13 (some (.normal, ⟨[(1, v1), (2, .ptr false 0 0), (6, (B (n6 == 1))), (7, B b7), (13, v13), (14, I x14), (15, (I (IntKind.i64.wrap (x15 + 1))))], [[vc0_0, vc0_1, vc0_2, vc0_3, vc0_4]], gh⟩))))))))) (stK 1 v1 (stK 1 v13 (stK 1 v1 (stK 1 v13 (stK 1 v1 (stK 1 v13 (some (.normal, ⟨[(1, v1), (2, .ptr false 0 0), (6, B false), (7, B b7), (13, v13), (14, I x14), (15, (I (IntKind.i64.wrap (x15 + 1))))], [[vc0_0, vc0_1, vc0_2, vc0_3, vc0_4]], gh⟩))))))))))) (some ((.exit 0), ⟨[(1, v1), (2, .ptr false 0 0), (6, B b6), (7, B b7), (13, v13), (14, I x14), (15, I x15), (16, (B (decide (x15 < x14))))], [[vc0_0, vc0_1, vc0_2, vc0_3, vc0_4]], gh⟩))
theorem D_eval_Marks_b1_ok {v1 : PV} {b6 b7 : Bool} {v13 : PV} {x14 x15 : Int} {vc0_0 vc0_1 : PV} {vc0_2 vc0_3 vc0_4 : PV} (h : D_eval_Marks_b1 pg v1 b6 b7 v13 x14 x15 vc0_0 vc0_1 vc0_2 vc0_3 vc0_4 gh = some (e, s)) : runL pg f_eval_Marks_b1 ⟨[(1, v1), (2, .ptr false 0 0), (6, B b6), (7, B b7), (13, v13), (14, I x14), (15, I x15)], [[vc0_0, vc0_1, vc0_2, vc0_3, vc0_4]], gh⟩ = some (e, s) :=
  runX_ok an_eval_Marks (Eq.trans (by kernel_rfl) h)
def D_eval_Marks_b2 (pg : Prg) (v1 : PV) (b6 b7 : Bool) (v29 : PV) (x30 x31 : Int) (gh : List GObj) : DR :=
  br 32 (decide (x31 < x30)) (
  idX 1 none (degr v29) x31 fun p1 =>
  ldX [] gh false 1 (degr p1) fun v2 => unI .i64 v2 fun n3 => stK 0 v1 (stK 0 v29 (
  br 36 b7 (stK 0 v1 (stK 0 v29 (stK 0 v1 (stK 0 v29 (stK 0 v1 (stK 0 v29 (some (.normal, ⟨[(1, v1), (6, B b6), (7, B true), (29, v29), (30, I x30), (31, (I (IntKind.i64.wrap (x31 + 1))))], [], gh⟩)))))))) (isC (degr v1) (
  idX 1 none (degr (degr v1)) n3 fun p4 =>
  ldX [] gh false 1 (degr p4) fun v5 => unI .i64 v5 fun n6 => stK 0 v1 (stK 0 v29 (stK 0 v1 (stK 0 v29 (stK 0 v1 (stK 0 v29 (some (.normal, ⟨[(1, v1), (6, B b6), (7, (B (n6 == 1))), (29, v29), (30, I x30), (31, (I (IntKind.i64.wrap (x31 + 1))))], [], gh⟩)))))))))))) (some ((.exit 2), ⟨[(1, v1), (6, B b6), (7, B b7), (29, v29), (30, I x30), (31, I x31), (32, (B (decide (x31 < x30))))], [], gh⟩))
theorem D_eval_Marks_b2_ok {v1 : PV} {b6 b7 : Bool} {v29 : PV} {x30 x31 : Int} (h : D_eval_Marks_b2 pg v1 b6 b7 v29 x30 x31 gh = some (e, s)) : runL pg f_eval_Marks_b2 ⟨[(1, v1), (6, B b6), (7, B b7), (29, v29), (30, I x30), (31, I x31)], [], gh⟩ = some (e, s) :=
  runX_ok an_eval_Marks (Eq.trans (by kernel_rfl) h)
def D_eval_Marks_k2 (pg : Prg) (b6 b7 : Bool) (gh : List GObj) : DR := some (.ret, ⟨[(4, B b6), (5, B b7)], [], gh⟩)
theorem D_eval_Marks_k2_ok {b6 b7 : Bool} (h : D_eval_Marks_k2 pg b6 b7 gh = some (e, s)) : runL pg f_eval_Marks_k2 ⟨[(6, B b6), (7, B b7)], [], gh⟩ = some (e, s) :=
  runX_ok an_eval_Marks (Eq.trans (by kernel_rfl) h)
def D_eval_Marks_k1 (pg : Prg) (v1 : PV) (b6 b7 : Bool) (vc0_0 vc0_1 : PV) (vc0_2 vc0_3 vc0_4 : PV) (gh : List GObj) : DR := isC (degr vc0_3) (lenS (degr (degr vc0_3)) fun n1 => stK 0 v1 (stK 0 (degr vc0_3) (
  kR (runL pg f_eval_Marks_l2 ⟨[(1, v1), (6, B b6), (7, B b7), (29, (degr vc0_3)), (30, (I (n1 : Int))), (31, I 0)], [], gh⟩) (fun e s => nx e s (fun e s => some (e, s)) fun s => kR (runL pg f_eval_Marks_k2 s) (fun e s => some (e, s))))))
theorem D_eval_Marks_k1_ok {v1 : PV} {b6 b7 : Bool} {vc0_0 vc0_1 : PV} {vc0_2 vc0_3 vc0_4 : PV} (h : D_eval_Marks_k1 pg v1 b6 b7 vc0_0 vc0_1 vc0_2 vc0_3 vc0_4 gh = some (e, s)) : runL pg f_eval_Marks_k1 ⟨[(1, v1), (2, .ptr false 0 0), (6, B b6), (7, B b7)], [[vc0_0, vc0_1, vc0_2, vc0_3, vc0_4]], gh⟩ = some (e, s) :=
  runX_ok an_eval_Marks (Eq.trans (by kernel_rfl) h)
def D_eval_Marks_0 (pg : Prg) (v0_0 v0_1 : PV) (v0_2 v0_3 : PV) (v0_4 v1 : PV) (gh : List GObj) : DR := onK (degr1 v0_0) (onK (degr1 v0_1) (onK (degr1 v0_2) (onK (degr1 v0_3) (onK (degr1 v0_4) (stK 1 v1 (isC (degr (degr1 v0_4)) (lenS (degr (degr (degr1 v0_4))) fun n1 => stK 1 v1 (stK 1 (degr (degr1 v0_4)) (
  kR (runL pg f_eval_Marks_l1 ⟨[(1, v1), (2, .ptr false 0 0), (6, B true), (7, B false), (13, (degr (degr1 v0_4))), (14, (I (n1 : Int))), (15, I 0)], [[(degr1 v0_0), (degr1 v0_1), (degr1 v0_2), (degr1 v0_3), (degr1 v0_4)]], gh⟩) (fun e s => nx e s (fun e s => some (e, s)) fun s => kR (runL pg f_eval_Marks_k1 s) (fun e s => some (e, s))))))))))))
theorem D_eval_Marks_0_ok {v0_0 v0_1 : PV} {v0_2 v0_3 : PV} {v0_4 v1 : PV} (h : D_eval_Marks_0 pg v0_0 v0_1 v0_2 v0_3 v0_4 v1 gh = some (e, s)) : runL pg f_eval_Marks_0 ⟨[(0, .agg [v0_0, v0_1, v0_2, v0_3, v0_4]), (1, v1)], [], gh⟩ = some (e, s) :=
  runX_ok an_eval_Marks (Eq.trans (by kernel_rfl) h)
end
end Go.Lw
end

/-! What the code of function ref_MarksOf comes to, piece by piece. Written by program (dprint.py). -/
section
set_option maxRecDepth 10000
set_option maxHeartbeats 4000000
namespace Go.Lw
open Go
noncomputable section
variable {pg : Prg} {gh : List GObj} {e : IExit} {s : St}
def an_ref_MarksOf : Tr := (tI 26 (tI 13 (tB 7 (tB 4 (tO 1 (.node 0 (.agg [.any, .any, .any, .any, .any]) .nil .nil) .nil) (tB 6 (uB 5) .nil)) (tI 10 (tI 9 (uI 8) .nil) (uO 12))) (tB 18 (tI 16 (tI 15 (uB 14) .nil) (uB 17)) (tI 22 (tO 21 (uO 19) .nil) (uI 24)))) (tB 37 (tI 32 (tI 29 (tB 28 (uB 27) .nil) (uO 31)) (tI 35 (tI 34 (uB 33) .nil) (uB 36))) (tI 45 (tI 41 (tO 40 (uO 38) .nil) (uI 43)) (tB 48 (tB 47 (uB 46) .nil) (uB 49)))))
def D_ref_MarksOf_b1 (pg : Prg) (v1 : PV) (b6 b7 : Bool) (x8 : Int) (vc0_0 vc0_1 : PV) (vc0_2 vc0_3 vc0_4 : PV) (gh : List GObj) : DR := isC (degr vc0_4) (lenS (degr (degr vc0_4)) fun n1 => stK 1 v1 (
  br 14 (decide (x8 < (n1 : Int))) (
  br 18 b6 (isC (degr v1) (isC (degr vc0_4) (
  idX 1 none (degr (degr vc0_4)) x8 fun p2 =>
  ldX [[vc0_0, vc0_1, vc0_2, vc0_3, vc0_4]] gh false 1 (degr p2) fun v3 => unI .i64 v3 fun n4 =>
  idX 1 none (degr (degr v1)) n4 fun p5 =>
  ldX [[vc0_0, vc0_1, vc0_2, vc0_3, vc0_4]] gh false 1 (degr p5) fun v6 => unI .i64 v6 fun n7 => stK 1 v1 (stK 1 v1 (stK 1 v1 (some (.normal, ⟨[(1, v1), (2, .ptr false 0 0), (6, (B (n7 == 1))), (7, B b7), (8, (I (IntKind.i64.wrap (x8 + 1))))], [[vc0_0, vc0_1, vc0_2, vc0_3, vc0_4]], gh⟩))))))) (stK 1 v1 (stK 1 v1 (stK 1 v1 (some (.normal, ⟨[(1, v1), (2, .ptr false 0 0), (6, B false), (7, B b7), (8, (I (IntKind.i64.wrap (x8 + 1))))], [[vc0_0, vc0_1, vc0_2, vc0_3, vc0_4]], gh⟩)))))) (some ((.exit 0), ⟨[(1, v1), (2, .ptr false 0 0), (6, B b6), (7, B b7), (8, I x8), (14, (B (decide (x8 < (n1 : Int)))))], [[vc0_0, vc0_1, vc0_2, vc0_3, vc0_4]], gh⟩))))
theorem D_ref_MarksOf_b1_ok {v1 : PV} {b6 b7 : Bool} {x8 : Int} {vc0_0 vc0_1 : PV} {vc0_2 vc0_3 vc0_4 : PV} (h : D_ref_MarksOf_b1 pg v1 b6 b7 x8 vc0_0 vc0_1 vc0_2 vc0_3 vc0_4 gh = some (e, s)) : runL pg f_ref_MarksOf_b1 ⟨[(1, v1), (2, .ptr false 0 0), (6, B b6), (7, B b7), (8, I x8)], [[vc0_0, vc0_1, vc0_2, vc0_3, vc0_4]], gh⟩ = some (e, s) :=
  runX_ok an_ref_MarksOf (Eq.trans (by kernel_rfl) h)
def D_ref_MarksOf_b2 (pg : Prg) (v1 : PV) (b6 b7 : Bool) (x9 : Int) (vc0_0 vc0_1 : PV) (vc0_2 vc0_3 vc0_4 : PV) (gh : List GObj) : DR := isC (degr vc0_3) (lenS (degr (degr vc0_3)) fun n1 => stK 1 v1 (
  br 33 (decide (x9 < (n1 : Int))) (
  br 37 b7 (stK 1 v1 (stK 1 v1 (stK 1 v1 (some (.normal, ⟨[(1, v1), (2, .ptr false 0 0), (6, B b6), (7, B true), (9, (I (IntKind.i64.wrap (x9 + 1))))], [[vc0_0, vc0_1, vc0_2, vc0_3, vc0_4]], gh⟩))))) (isC (degr v1) (isC (degr vc0_3) (
  idX 1 none (degr (degr vc0_3)) x9 fun p2 =>
  ldX [[vc0_0, vc0_1, vc0_2, vc0_3, vc0_4]] gh false 1 (degr p2) fun v3 => unI .i64 v3 fun n4 =>
  idX 1 none (degr (degr v1)) n4 fun p5 =>
  ldX [[vc0_0, vc0_1, vc0_2, vc0_3, vc0_4]] gh false 1 (degr p5) fun v6 => unI .i64 v6 fun n7 => stK 1 v1 (stK 1 v1 (stK 1 v1 (some (.normal, ⟨[(1, v1), (2, .ptr false 0 0), (6, B b6), (7, (B (n7 == 1))), (9, (I (IntKind.i64.wrap (x9 + 1))))], [[vc0_0, vc0_1, vc0_2, vc0_3, vc0_4]], gh⟩)))))))) (some ((.exit 2), ⟨[(1, v1), (2, .ptr false 0 0), (6, B b6), (7, B b7), (9, I x9), (33, (B (decide (x9 < (n1 : Int)))))], [[vc0_0, vc0_1, vc0_2, vc0_3, vc0_4]], gh⟩))))
theorem D_ref_MarksOf_b2_ok {v1 : PV} {b6 b7 : Bool} {x9 : Int} {vc0_0 vc0_1 : PV} {vc0_2 vc0_3 vc0_4 : PV} (h : D_ref_MarksOf_b2 pg v1 b6 b7 x9 vc0_0 vc0_1 vc0_2 vc0_3 vc0_4 gh = some (e, s)) : runL pg f_ref_MarksOf_b2 ⟨[(1, v1), (2, .ptr false 0 0), (6, B b6), (7, B b7), (9, I x9)], [[vc0_0, vc0_1, vc0_2, vc0_3, vc0_4]], gh⟩ = some (e, s) :=
  runX_ok an_ref_MarksOf (Eq.trans (by kernel_rfl) h)
def D_ref_MarksOf_k2 (pg : Prg) (b6 b7 : Bool) (gh : List GObj) : DR := some (.ret, ⟨[(4, B b6), (5, B b7)], [], gh⟩)
theorem D_ref_MarksOf_k2_ok {b6 b7 : Bool} (h : D_ref_MarksOf_k2 pg b6 b7 gh = some (e, s)) : runL pg f_ref_MarksOf_k2 ⟨[(6, B b6), (7, B b7)], [], gh⟩ = some (e, s) :=
  runX_ok an_ref_MarksOf (Eq.trans (by kernel_rfl) h)
def D_ref_MarksOf_k1 (pg : Prg) (v1 : PV) (b6 b7 : Bool) (vc0_0 vc0_1 : PV) (vc0_2 vc0_3 vc0_4 : PV) (gh : List GObj) : DR := stK 1 v1 (
  kR (runL pg f_ref_MarksOf_l2 ⟨[(1, v1), (2, .ptr false 0 0), (6, B b6), (7, B b7), (9, I 0)], [[vc0_0, vc0_1, vc0_2, vc0_3, vc0_4]], gh⟩) (fun e s => nx e s (fun e s => some (e, s)) fun s => kR (runL pg f_ref_MarksOf_k2 s) (fun e s => some (e, s))))
theorem D_ref_MarksOf_k1_ok {v1 : PV} {b6 b7 : Bool} {vc0_0 vc0_1 : PV} {vc0_2 vc0_3 vc0_4 : PV} (h : D_ref_MarksOf_k1 pg v1 b6 b7 vc0_0 vc0_1 vc0_2 vc0_3 vc0_4 gh = some (e, s)) : runL pg f_ref_MarksOf_k1 ⟨[(1, v1), (2, .ptr false 0 0), (6, B b6), (7, B b7)], [[vc0_0, vc0_1, vc0_2, vc0_3, vc0_4]], gh⟩ = some (e, s) :=
  runX_ok an_ref_MarksOf (Eq.trans (by kernel_rfl) h)
def D_ref_MarksOf_0 (pg : Prg) (v0_0 v0_1 : PV) (v0_2 v0_3 : PV) (v0_4 v1 : PV) (gh : List GObj) : DR := onK (degr1 v0_0) (onK (degr1 v0_1) (onK (degr1 v0_2) (onK (degr1 v0_3) (onK (degr1 v0_4) (stK 1 v1 (stK 1 v1 (
  kR (runL pg f_ref_MarksOf_l1 ⟨[(1, v1), (2, .ptr false 0 0), (6, B true), (7, B false), (8, I 0)], [[(degr1 v0_0), (degr1 v0_1), (degr1 v0_2), (degr1 v0_3), (degr1 v0_4)]], gh⟩) (fun e s => nx e s (fun e s => some (e, s)) fun s => kR (runL pg f_ref_MarksOf_k1 s) (fun e s => some (e, s))))))))))
theorem D_ref_MarksOf_0_ok {v0_0 v0_1 : PV} {v0_2 v0_3 : PV} {v0_4 v1 : PV} (h : D_ref_MarksOf_0 pg v0_0 v0_1 v0_2 v0_3 v0_4 v1 gh = some (e, s)) : runL pg f_ref_MarksOf_0 ⟨[(0, .agg [v0_0, v0_1, v0_2, v0_3, v0_4]), (1, v1)], [], gh⟩ = some (e, s) :=
  runX_ok an_ref_MarksOf (Eq.trans (by kernel_rfl) h)
end
end Go.Lw
end

/-! What the code of function eval_Values comes to, piece by piece. Written by program (dprint.py). -/
section
set_option maxRecDepth 10000
set_option maxHeartbeats 4000000
namespace Go.Lw
open Go
noncomputable section
variable {pg : Prg} {gh : List GObj} {e : IExit} {s : St}
def an_eval_Values : Tr := (tO 11 (tI 7 (tO 2 (tO 1 (.node 0 (.agg [.any, .any, .any, .any, .any]) .nil .nil) .nil) (uO 6)) (.node 9 (.agg [.any, .any, .any, .any, .any]) (uI 8) (uO 10))) (.node 16 (.agg [.any, .any, .any, .any, .any]) (tB 14 (tI 13 (uI 12) .nil) (uI 15)) (tO 18 (uO 17) (uO 19))))
def D_eval_Values_0 (pg : Prg) (v0_0 v0_1 : PV) (v0_2 v0_3 : PV) (v0_4 v1 v2 : PV) (gh : List GObj) : DR := onK (degr1 v0_0) (onK (degr1 v0_1) (onK (degr1 v0_2) (onK (degr1 v0_3) (onK (degr1 v0_4) (stK 1 v1 (stK 1 v2 (isC (degr v1) (isC (degr v2) (onK (degr1 (degr1 (degr1 v0_0))) (onK (degr1 (degr1 (degr1 v0_1))) (onK (degr1 (degr1 (degr1 v0_2))) (onK (degr1 (degr1 (degr1 v0_3))) (onK (degr1 (degr1 (degr1 v0_4))) (arK (degr (degr v1)) (arK (degr (degr v2)) (
  callR gh true (callL pg 138 [(.agg [(degr1 (degr1 (degr1 v0_0))), (degr1 (degr1 (degr1 v0_1))), (degr1 (degr1 (degr1 v0_2))), (degr1 (degr1 (degr1 v0_3))), (degr1 (degr1 (degr1 v0_4)))]), (degr (degr v1)), (degr (degr v2))] gh) fun r1 gh2 => unI .i64 r1 fun n3 => stK 1 v1 (stK 1 v2 (stK 1 v1 (stK 1 v2 (
  br 14 (n3 != 0) (some (.ret, ⟨[(6, .sl true 1 []), (7, I n3)], [], gh2⟩)) (isC (degr v1) (isC (degr v2) (onK (degr1 (degr1 (degr1 v0_0))) (onK (degr1 (degr1 (degr1 v0_1))) (onK (degr1 (degr1 (degr1 v0_2))) (onK (degr1 (degr1 (degr1 v0_3))) (onK (degr1 (degr1 (degr1 v0_4))) (arK (degr (degr v1)) (arK (degr (degr v2)) (
  callR gh2 true (callL pg 139 [(.agg [(degr1 (degr1 (degr1 v0_0))), (degr1 (degr1 (degr1 v0_1))), (degr1 (degr1 (degr1 v0_2))), (degr1 (degr1 (degr1 v0_3))), (degr1 (degr1 (degr1 v0_4)))]), (degr (degr v1)), (degr (degr v2))] gh2) fun r4 gh5 => isC r4 (stK 0 r4 (some (.ret, ⟨[(6, r4), (7, I 0)], [], gh5⟩)))))))))))))))))))))))))))))))))
theorem D_eval_Values_0_ok {v0_0 v0_1 : PV} {v0_2 v0_3 : PV} {v0_4 v1 v2 : PV} (h : D_eval_Values_0 pg v0_0 v0_1 v0_2 v0_3 v0_4 v1 v2 gh = some (e, s)) : runL pg f_eval_Values_0 ⟨[(0, .agg [v0_0, v0_1, v0_2, v0_3, v0_4]), (1, v1), (2, v2)], [], gh⟩ = some (e, s) :=
  runX_ok an_eval_Values (Eq.trans (by kernel_rfl) h)
end
end Go.Lw
end

/-! What the code of function eval_Step comes to, piece by piece. Written by program (dprint.py). -/
section
set_option maxRecDepth 10000
set_option maxHeartbeats 4000000
namespace Go.Lw
open Go
noncomputable section
variable {pg : Prg} {gh : List GObj} {e : IExit} {s : St}
def an_eval_Step : Tr := (tI 12 (tI 7 (tO 2 (tO 1 (.node 0 (.agg [.any, .any, .any, .any, .any]) .nil .nil) .nil) (uO 6)) (tO 10 (.node 9 (.agg [.any, .any, .any, .any, .any]) (uI 8) .nil) (uO 11))) (.node 17 (.agg [.any, .any, .any, .any, .any]) (tI 15 (tB 14 (uI 13) .nil) (.node 16 (.agg [.any, .any, .any, .any, .any]) .nil .nil)) (tO 20 (tO 19 (uO 18) .nil) (uO 21))))
def D_eval_Step_0 (pg : Prg) (v0_0 v0_1 : PV) (v0_2 v0_3 : PV) (v0_4 v1 v2 : PV) (gh : List GObj) : DR := onK (degr1 v0_0) (onK (degr1 v0_1) (onK (degr1 v0_2) (onK (degr1 v0_3) (onK (degr1 v0_4) (stK 1 v1 (stK 1 v2 (isC (degr v1) (isC (degr v2) (onK (degr1 (degr1 (degr1 v0_0))) (onK (degr1 (degr1 (degr1 v0_1))) (onK (degr1 (degr1 (degr1 v0_2))) (onK (degr1 (degr1 (degr1 v0_3))) (onK (degr1 (degr1 (degr1 v0_4))) (arK (degr (degr v1)) (arK (degr (degr v2)) (
  callR gh true (callL pg 138 [(.agg [(degr1 (degr1 (degr1 v0_0))), (degr1 (degr1 (degr1 v0_1))), (degr1 (degr1 (degr1 v0_2))), (degr1 (degr1 (degr1 v0_3))), (degr1 (degr1 (degr1 v0_4)))]), (degr (degr v1)), (degr (degr v2))] gh) fun r1 gh2 => unI .i64 r1 fun n3 => stK 1 v1 (stK 1 v2 (stK 1 v1 (stK 1 v2 (
  br 14 (n3 != 0) (some (.ret, ⟨[(6, .sl true 1 []), (7, I n3)], [], gh2⟩)) (isC (degr v1) (isC (degr v2) (onK (degr1 (degr1 (degr1 v0_0))) (onK (degr1 (degr1 (degr1 v0_1))) (onK (degr1 (degr1 (degr1 v0_2))) (onK (degr1 (degr1 (degr1 v0_3))) (onK (degr1 (degr1 (degr1 v0_4))) (arK (degr (degr v1)) (arK (degr (degr v2)) (
  callR gh2 true (callL pg 139 [(.agg [(degr1 (degr1 (degr1 v0_0))), (degr1 (degr1 (degr1 v0_1))), (degr1 (degr1 (degr1 v0_2))), (degr1 (degr1 (degr1 v0_3))), (degr1 (degr1 (degr1 v0_4)))]), (degr (degr v1)), (degr (degr v2))] gh2) fun r4 gh5 => isC r4 (onK (degr1 (degr1 (degr1 v0_0))) (onK (degr1 (degr1 (degr1 v0_1))) (onK (degr1 (degr1 (degr1 v0_2))) (onK (degr1 (degr1 (degr1 v0_3))) (onK (degr1 (degr1 (degr1 v0_4))) (arK (degr r4) (
  callR gh5 true (callL pg 140 [(.agg [(degr1 (degr1 (degr1 v0_0))), (degr1 (degr1 (degr1 v0_1))), (degr1 (degr1 (degr1 v0_2))), (degr1 (degr1 (degr1 v0_3))), (degr1 (degr1 (degr1 v0_4)))]), (degr r4)] gh5) fun r6 gh7 => isC r6 (stK 0 r6 (some (.ret, ⟨[(6, r6), (7, I 0)], [], gh7⟩))))))))))))))))))))))))))))))))))))))))
theorem D_eval_Step_0_ok {v0_0 v0_1 : PV} {v0_2 v0_3 : PV} {v0_4 v1 v2 : PV} (h : D_eval_Step_0 pg v0_0 v0_1 v0_2 v0_3 v0_4 v1 v2 gh = some (e, s)) : runL pg f_eval_Step_0 ⟨[(0, .agg [v0_0, v0_1, v0_2, v0_3, v0_4]), (1, v1), (2, v2)], [], gh⟩ = some (e, s) :=
  runX_ok an_eval_Step (Eq.trans (by kernel_rfl) h)
end
end Go.Lw
end

/-! What the code of function eval_Look comes to, piece by piece. Written by program (dprint.py). -/
section
set_option maxRecDepth 10000
set_option maxHeartbeats 4000000
namespace Go.Lw
open Go
noncomputable section
variable {pg : Prg} {gh : List GObj} {e : IExit} {s : St}
def an_eval_Look : Tr := (tI 16 (tI 9 (tB 6 (tO 1 (.node 0 (.agg [.any, .any, .any, .any, .any]) .nil .nil) (uO 2)) (tI 8 (uB 7) .nil)) (tO 13 (tB 11 (uB 10) (.node 12 (.agg [.any, .any, .any, .any, .any]) .nil .nil)) (tI 15 (uO 14) .nil))) (tO 23 (.node 20 (.agg [.any, .any, .any, .any, .any]) (tI 18 (uB 17) (.node 19 (.tup 2) .nil .nil)) (tO 22 (.node 21 (.agg [.any, .any, .any, .any, .any]) .nil .nil) .nil)) (tB 27 (.node 25 (.tup 2) (uO 24) (uB 26)) (tB 29 (uB 28) .nil))))
def D_eval_Look_0 (pg : Prg) (v0_0 v0_1 : PV) (v0_2 v0_3 : PV) (v0_4 v1 v2 : PV) (gh : List GObj) : DR := onK (degr1 v0_0) (onK (degr1 v0_1) (onK (degr1 v0_2) (onK (degr1 v0_3) (onK (degr1 v0_4) (stK 1 v1 (stK 1 v2 (isC (degr v1) (isC (degr v2) (onK (degr1 (degr1 (degr1 v0_0))) (onK (degr1 (degr1 (degr1 v0_1))) (onK (degr1 (degr1 (degr1 v0_2))) (onK (degr1 (degr1 (degr1 v0_3))) (onK (degr1 (degr1 (degr1 v0_4))) (arK (degr (degr v1)) (arK (degr (degr v2)) (
  callR gh true (callL pg 138 [(.agg [(degr1 (degr1 (degr1 v0_0))), (degr1 (degr1 (degr1 v0_1))), (degr1 (degr1 (degr1 v0_2))), (degr1 (degr1 (degr1 v0_3))), (degr1 (degr1 (degr1 v0_4)))]), (degr (degr v1)), (degr (degr v2))] gh) fun r1 gh2 => unI .i64 r1 fun n3 => stK 1 v1 (stK 1 v2 (stK 1 v1 (stK 1 v2 (
  br 17 (n3 != 0) (some (.ret, ⟨[(6, B false), (7, B false), (8, I n3)], [], gh2⟩)) (isC (degr v1) (isC (degr v2) (onK (degr1 (degr1 (degr1 v0_0))) (onK (degr1 (degr1 (degr1 v0_1))) (onK (degr1 (degr1 (degr1 v0_2))) (onK (degr1 (degr1 (degr1 v0_3))) (onK (degr1 (degr1 (degr1 v0_4))) (arK (degr (degr v1)) (arK (degr (degr v2)) (
  callR gh2 true (callL pg 139 [(.agg [(degr1 (degr1 (degr1 v0_0))), (degr1 (degr1 (degr1 v0_1))), (degr1 (degr1 (degr1 v0_2))), (degr1 (degr1 (degr1 v0_3))), (degr1 (degr1 (degr1 v0_4)))]), (degr (degr v1)), (degr (degr v2))] gh2) fun r4 gh5 => isC r4 (onK (degr1 (degr1 (degr1 v0_0))) (onK (degr1 (degr1 (degr1 v0_1))) (onK (degr1 (degr1 (degr1 v0_2))) (onK (degr1 (degr1 (degr1 v0_3))) (onK (degr1 (degr1 (degr1 v0_4))) (arK (degr r4) (
  callR gh5 true (callL pg 141 [(.agg [(degr1 (degr1 (degr1 v0_0))), (degr1 (degr1 (degr1 v0_1))), (degr1 (degr1 (degr1 v0_2))), (degr1 (degr1 (degr1 v0_3))), (degr1 (degr1 (degr1 v0_4)))]), (degr r4)] gh5) fun r6 gh7 => unT 2 r6 fun r8 r9 => unB (degr1 (degr1 r8)) fun b10 => unB (degr1 (degr1 r9)) fun b11 => some (.ret, ⟨[(6, B b10), (7, B b11), (8, I 0)], [], gh7⟩))))))))))))))))))))))))))))))))))))))
theorem D_eval_Look_0_ok {v0_0 v0_1 : PV} {v0_2 v0_3 : PV} {v0_4 v1 v2 : PV} (h : D_eval_Look_0 pg v0_0 v0_1 v0_2 v0_3 v0_4 v1 v2 gh = some (e, s)) : runL pg f_eval_Look_0 ⟨[(0, .agg [v0_0, v0_1, v0_2, v0_3, v0_4]), (1, v1), (2, v2)], [], gh⟩ = some (e, s) :=
  runX_ok an_eval_Look (Eq.trans (by kernel_rfl) h)
end
end Go.Lw
end

/-! What the code of function law_evalBegun comes to, piece by piece. Written by program (dprint.py). -/
section
set_option maxRecDepth 10000
set_option maxHeartbeats 4000000
namespace Go.Lw
open Go
noncomputable section
variable {pg : Prg} {gh : List GObj} {e : IExit} {s : St}
def an_law_evalBegun : Tr := (tB 31 (.node 15 (.agg [.any, .any, .any, .any, .any]) (tI 7 (tO 3 (tO 1 (uB 0) (uI 2)) (tB 5 (uI 4) (uB 6))) (.node 11 (.tup 2) (.node 9 (.agg [.any, .any, .any, .any, .any]) (.node 8 (.tup 2) .nil .nil) (uO 10)) (tI 13 (uO 12) (.node 14 (.tup 2) .nil .nil)))) (.node 23 (.tup 3) (tI 19 (.node 17 (.tup 2) (uO 16) (uO 18)) (.node 21 (.agg [.any, .any, .any, .any, .any]) (.node 20 (.tup 3) .nil .nil) (uO 22))) (tI 27 (tB 25 (uB 24) (uI 26)) (tB 29 (uB 28) (uI 30))))) (tB 48 (tI 39 (tB 35 (tB 33 (uB 32) (uI 34)) (tB 37 (uB 36) (uO 38))) (tO 43 (tB 41 (uB 40) (uB 42)) (tB 46 (uI 45) (uB 47)))) (tB 57 (tB 52 (tI 50 (uO 49) (uB 51)) (tO 54 (uB 53) (uI 56))) (tB 61 (tB 59 (uB 58) (uB 60)) (tB 63 (uB 62) (uB 64))))))
def D_law_evalBegun_0 (pg : Prg)  (gh : List GObj) : DR :=
  callR gh true (callL pg 75 [] gh) fun r1 gh2 => unA 5 r1 fun c3 c4 c5 c6 c7 => onK (degr1 c3) (onK (degr1 c4) (onK (degr1 c5) (onK (degr1 c6) (onK (degr1 c7) (
  callR gh2 true (callL pg 123 [(.agg [(degr1 c3), (degr1 c4), (degr1 c5), (degr1 c6), (degr1 c7)]), .sl false 1 [I 1]] gh2) fun r8 gh9 => unT 2 r8 fun r10 r11 => isC (degr1 (degr1 r10)) (unI .i64 (degr1 (degr1 r11)) fun n12 => stK 0 (degr1 (degr1 r10)) (
  callR gh9 true (callL pg 75 [] gh9) fun r13 gh14 => unA 5 r13 fun c15 c16 c17 c18 c19 => onK (degr1 c15) (onK (degr1 c16) (onK (degr1 c17) (onK (degr1 c18) (onK (degr1 c19) (
  callR gh14 true (callL pg 129 [(.agg [(degr1 c15), (degr1 c16), (degr1 c17), (degr1 c18), (degr1 c19)]), .sl false 1 [I 0], .sl false 1 []] gh14) fun r20 gh21 => unT 2 r20 fun r22 r23 => isC (degr1 (degr1 r22)) (unI .i64 (degr1 (degr1 r23)) fun n24 => stK 0 (degr1 (degr1 r10)) (stK 0 (degr1 (degr1 r22)) (
  callR gh21 true (callL pg 75 [] gh21) fun r25 gh26 => unA 5 r25 fun c27 c28 c29 c30 c31 => onK (degr1 c27) (onK (degr1 c28) (onK (degr1 c29) (onK (degr1 c30) (onK (degr1 c31) (
  callR gh26 true (callL pg 130 [(.agg [(degr1 c27), (degr1 c28), (degr1 c29), (degr1 c30), (degr1 c31)]), .sl false 1 [I 1], .sl false 1 []] gh26) fun r32 gh33 => unT 3 r32 fun r34 r35 r36 => unB (degr1 (degr1 r34)) fun b37 => unB (degr1 (degr1 r35)) fun b38 => unI .i64 (degr1 (degr1 r36)) fun n39 => stK 0 (degr1 (degr1 r10)) (stK 0 (degr1 (degr1 r22)) (
  br 29 (n12 == 0) (
  br 33 (n24 == 0) (
  br 37 (n39 == 0) (isC (degr (degr1 (degr1 r10))) (lenS (degr (degr (degr1 (degr1 r10)))) fun n40 =>
  br 42 ((n40 : Int) == 1) (isC (degr (degr1 (degr1 r10))) (
  idX 1 none (degr (degr (degr1 (degr1 r10)))) 0 fun p41 =>
  ldX [] gh33 false 1 (degr p41) fun v42 => unI .i64 v42 fun n43 =>
  br 48 (n43 == 0) (isC (degr (degr1 (degr1 r22))) (lenS (degr (degr (degr1 (degr1 r22)))) fun n44 =>
  br 53 ((n44 : Int) == 1) (isC (degr (degr1 (degr1 r22))) (
  idX 1 none (degr (degr (degr1 (degr1 r22)))) 0 fun p45 =>
  ldX [] gh33 false 1 (degr p45) fun v46 => unI .i64 v46 fun n47 =>
  br 59 (n47 == 1) (
  br 62 b37 (some (.ret, ⟨[(0, B b38)], [], gh33⟩)) (some (.ret, ⟨[(0, B false)], [], gh33⟩))) (some (.ret, ⟨[(0, B false)], [], gh33⟩)))) (some (.ret, ⟨[(0, B false)], [], gh33⟩)))) (some (.ret, ⟨[(0, B false)], [], gh33⟩)))) (some (.ret, ⟨[(0, B false)], [], gh33⟩)))) (some (.ret, ⟨[(0, B false)], [], gh33⟩))) (some (.ret, ⟨[(0, B false)], [], gh33⟩))) (some (.ret, ⟨[(0, B false)], [], gh33⟩))))))))))))))))))))))))
theorem D_law_evalBegun_0_ok  (h : D_law_evalBegun_0 pg  gh = some (e, s)) : runL pg f_law_evalBegun_0 ⟨[], [], gh⟩ = some (e, s) :=
  runX_ok an_law_evalBegun (Eq.trans (by kernel_rfl) h)
end
end Go.Lw
end

/-! What the code of function law_EvalValues comes to, piece by piece. Written by program (dprint.py). -/
section
set_option maxRecDepth 10000
set_option maxHeartbeats 4000000
namespace Go.Lw
open Go
noncomputable section
variable {pg : Prg} {gh : List GObj} {e : IExit} {s : St}
def an_law_EvalValues : Tr := (tB 46 (tO 24 (tI 13 (tI 8 (tO 2 (tO 1 (.node 0 (.agg [.any, .any, .any, .any, .any]) .nil .nil) .nil) (tO 7 (uB 6) .nil)) (tB 11 (tI 10 (uO 9) .nil) (uB 12))) (.node 19 (.tup 2) (tO 16 (tO 15 (uI 14) .nil) (tB 18 (uB 17) .nil)) (tO 22 (tO 21 (.node 20 (.agg [.any, .any, .any, .any, .any]) .nil .nil) .nil) (.node 23 (.tup 2) .nil .nil)))) (tO 35 (.node 30 (.tup 2) (.node 27 (.agg [.any, .any, .any, .any, .any]) (.node 26 (.tup 2) (uI 25) .nil) (tO 29 (uO 28) .nil)) (.node 33 (.tup 3) (tI 32 (uO 31) .nil) (.node 34 (.agg [.any, .any, .any, .any, .any]) .nil .nil))) (.node 41 (.agg [.any, .any, .any, .any, .any]) (tB 38 (.node 37 (.tup 3) (uO 36) .nil) (tI 40 (uB 39) .nil)) (tI 44 (tO 43 (uO 42) .nil) (uI 45))))) (tB 68 (.node 57 (.tup 2) (tO 52 (tO 49 (tO 48 (.node 47 (.agg [.any, .any, .any, .any, .any]) .nil .nil) .nil) (.node 51 (.agg [.any, .any, .any, .any, .any]) (uO 50) .nil)) (.node 55 (.agg [.any, .any, .any, .any, .any]) (.node 54 (.tup 2) (uO 53) .nil) (uO 56))) (tI 63 (tB 60 (tB 59 (uB 58) .nil) (tO 62 (uB 61) .nil)) (tB 66 (tO 65 (uI 64) .nil) (uB 67)))) (tB 79 (tB 74 (tI 71 (tI 70 (uO 69) .nil) (tB 73 (uO 72) .nil)) (tI 77 (tI 76 (uB 75) .nil) (uB 78))) (tB 85 (tB 82 (tB 81 (uB 80) .nil) (tB 84 (uB 83) .nil)) (tB 88 (tB 87 (uB 86) .nil) (uB 89))))))
def D_law_EvalValues_k1 (pg : Prg) (v7 : PV) (x8 : Int) (v9 : PV) (x10 : Int) (b11 b12 : Bool) (x13 x14 : Int) (v15 v16 : PV) (b17 b18 : Bool) (gh : List GObj) : DR :=
  callR gh true (callL pg 126 [] gh) fun r1 gh2 => unB r1 fun b3 =>
  br 61 b3 (isC (degr v7) (isC (degr v15) (arK (degr (degr v7)) (arK (degr (degr v15)) (
  callR gh2 true (callL pg 40 [(degr (degr v7)), I x8, I x14, (degr (degr v15))] gh2) fun r4 gh5 => unB r4 fun b6 =>
  br 68 b6 (isC (degr v9) (isC (degr v16) (arK (degr (degr v9)) (arK (degr (degr v16)) (
  callR gh5 true (callL pg 40 [(degr (degr v9)), I x10, I x14, (degr (degr v16))] gh5) fun r7 gh8 => unB r7 fun b9 =>
  br 75 b9 (
  br 80 (x13 == x14) (
  br 85 (b11 == b17) (some (.ret, ⟨[(6, (B (b12 == b18)))], [], gh8⟩)) (some (.ret, ⟨[(6, B false)], [], gh8⟩))) (some (.ret, ⟨[(6, B false)], [], gh8⟩))) (some (.ret, ⟨[(6, B false)], [], gh8⟩))))))) (some (.ret, ⟨[(6, B false)], [], gh5⟩))))))) (some (.ret, ⟨[(6, B false)], [], gh2⟩))
theorem D_law_EvalValues_k1_ok {v7 : PV} {x8 : Int} {v9 : PV} {x10 : Int} {b11 b12 : Bool} {x13 x14 : Int} {v15 v16 : PV} {b17 b18 : Bool} (h : D_law_EvalValues_k1 pg v7 x8 v9 x10 b11 b12 x13 x14 v15 v16 b17 b18 gh = some (e, s)) : runL pg f_law_EvalValues_k1 ⟨[(7, v7), (8, I x8), (9, v9), (10, I x10), (11, B b11), (12, B b12), (13, I x13), (14, I x14), (15, v15), (16, v16), (17, B b17), (18, B b18)], [], gh⟩ = some (e, s) :=
  runX_ok an_law_EvalValues (Eq.trans (by kernel_rfl) h)
def D_law_EvalValues_0 (pg : Prg) (v0_0 v0_1 : PV) (v0_2 v0_3 : PV) (v0_4 v1 v2 : PV) (gh : List GObj) : DR := onK (degr1 v0_0) (onK (degr1 v0_1) (onK (degr1 v0_2) (onK (degr1 v0_3) (onK (degr1 v0_4) (stK 1 v1 (stK 1 v2 (isC (degr v1) (isC (degr v2) (onK (degr1 (degr1 (degr1 v0_0))) (onK (degr1 (degr1 (degr1 v0_1))) (onK (degr1 (degr1 (degr1 v0_2))) (onK (degr1 (degr1 (degr1 v0_3))) (onK (degr1 (degr1 (degr1 v0_4))) (arK (degr (degr v1)) (arK (degr (degr v2)) (
  callR gh true (callL pg 128 [(.agg [(degr1 (degr1 (degr1 v0_0))), (degr1 (degr1 (degr1 v0_1))), (degr1 (degr1 (degr1 v0_2))), (degr1 (degr1 (degr1 v0_3))), (degr1 (degr1 (degr1 v0_4)))]), (degr (degr v1)), (degr (degr v2))] gh) fun r1 gh2 => unT 2 r1 fun r3 r4 => isC (degr1 (degr1 r3)) (unI .i64 (degr1 (degr1 r4)) fun n5 => stK 1 v1 (stK 1 v2 (stK 1 (degr1 (degr1 r3)) (isC (degr v1) (isC (degr v2) (onK (degr1 (degr1 (degr1 v0_0))) (onK (degr1 (degr1 (degr1 v0_1))) (onK (degr1 (degr1 (degr1 v0_2))) (onK (degr1 (degr1 (degr1 v0_3))) (onK (degr1 (degr1 (degr1 v0_4))) (arK (degr (degr v1)) (arK (degr (degr v2)) (
  callR gh2 true (callL pg 129 [(.agg [(degr1 (degr1 (degr1 v0_0))), (degr1 (degr1 (degr1 v0_1))), (degr1 (degr1 (degr1 v0_2))), (degr1 (degr1 (degr1 v0_3))), (degr1 (degr1 (degr1 v0_4)))]), (degr (degr v1)), (degr (degr v2))] gh2) fun r6 gh7 => unT 2 r6 fun r8 r9 => isC (degr1 (degr1 r8)) (unI .i64 (degr1 (degr1 r9)) fun n10 => stK 1 v1 (stK 1 v2 (stK 1 (degr1 (degr1 r3)) (stK 1 (degr1 (degr1 r8)) (isC (degr v1) (isC (degr v2) (onK (degr1 (degr1 (degr1 v0_0))) (onK (degr1 (degr1 (degr1 v0_1))) (onK (degr1 (degr1 (degr1 v0_2))) (onK (degr1 (degr1 (degr1 v0_3))) (onK (degr1 (degr1 (degr1 v0_4))) (arK (degr (degr v1)) (arK (degr (degr v2)) (
  callR gh7 true (callL pg 130 [(.agg [(degr1 (degr1 (degr1 v0_0))), (degr1 (degr1 (degr1 v0_1))), (degr1 (degr1 (degr1 v0_2))), (degr1 (degr1 (degr1 v0_3))), (degr1 (degr1 (degr1 v0_4)))]), (degr (degr v1)), (degr (degr v2))] gh7) fun r11 gh12 => unT 3 r11 fun r13 r14 r15 => unB (degr1 (degr1 r13)) fun b16 => unB (degr1 (degr1 r14)) fun b17 => unI .i64 (degr1 (degr1 r15)) fun n18 => stK 1 v1 (stK 1 v2 (stK 1 (degr1 (degr1 r3)) (stK 1 (degr1 (degr1 r8)) (isC (degr v1) (isC (degr v2) (onK (degr1 (degr1 (degr1 v0_0))) (onK (degr1 (degr1 (degr1 v0_1))) (onK (degr1 (degr1 (degr1 v0_2))) (onK (degr1 (degr1 (degr1 v0_3))) (onK (degr1 (degr1 (degr1 v0_4))) (arK (degr (degr v1)) (arK (degr (degr v2)) (
  callR gh12 true (callL pg 131 [(.agg [(degr1 (degr1 (degr1 v0_0))), (degr1 (degr1 (degr1 v0_1))), (degr1 (degr1 (degr1 v0_2))), (degr1 (degr1 (degr1 v0_3))), (degr1 (degr1 (degr1 v0_4)))]), (degr (degr v1)), (degr (degr v2))] gh12) fun r19 gh20 => unI .i64 r19 fun n21 => stK 1 v1 (stK 1 v2 (stK 1 (degr1 (degr1 r3)) (stK 1 (degr1 (degr1 r8)) (stK 1 v1 (stK 1 v2 (stK 1 (degr1 (degr1 r3)) (stK 1 (degr1 (degr1 r8)) (
  br 46 (n21 == 0) (isC (degr v1) (isC (degr v2) (onK (degr1 (degr1 (degr1 v0_0))) (onK (degr1 (degr1 (degr1 v0_1))) (onK (degr1 (degr1 (degr1 v0_2))) (onK (degr1 (degr1 (degr1 v0_3))) (onK (degr1 (degr1 (degr1 v0_4))) (arK (degr (degr v1)) (arK (degr (degr v2)) (
  callR gh20 true (callL pg 132 [(.agg [(degr1 (degr1 (degr1 v0_0))), (degr1 (degr1 (degr1 v0_1))), (degr1 (degr1 (degr1 v0_2))), (degr1 (degr1 (degr1 v0_3))), (degr1 (degr1 (degr1 v0_4)))]), (degr (degr v1)), (degr (degr v2))] gh20) fun r22 gh23 => isC r22 (stK 1 (degr1 (degr1 r3)) (stK 1 (degr1 (degr1 r8)) (stK 1 r22 (isC (degr r22) (onK (degr1 (degr1 (degr1 v0_0))) (onK (degr1 (degr1 (degr1 v0_1))) (onK (degr1 (degr1 (degr1 v0_2))) (onK (degr1 (degr1 (degr1 v0_3))) (onK (degr1 (degr1 (degr1 v0_4))) (arK (degr (degr r22)) (
  callR gh23 true (callL pg 133 [(.agg [(degr1 (degr1 (degr1 v0_0))), (degr1 (degr1 (degr1 v0_1))), (degr1 (degr1 (degr1 v0_2))), (degr1 (degr1 (degr1 v0_3))), (degr1 (degr1 (degr1 v0_4)))]), (degr (degr r22))] gh23) fun r24 gh25 => isC r24 (stK 1 (degr1 (degr1 r3)) (stK 1 (degr1 (degr1 r8)) (stK 1 r22 (stK 1 r24 (isC (degr r22) (onK (degr1 (degr1 (degr1 v0_0))) (onK (degr1 (degr1 (degr1 v0_1))) (onK (degr1 (degr1 (degr1 v0_2))) (onK (degr1 (degr1 (degr1 v0_3))) (onK (degr1 (degr1 (degr1 v0_4))) (arK (degr (degr r22)) (
  callR gh25 true (callL pg 134 [(.agg [(degr1 (degr1 (degr1 v0_0))), (degr1 (degr1 (degr1 v0_1))), (degr1 (degr1 (degr1 v0_2))), (degr1 (degr1 (degr1 v0_3))), (degr1 (degr1 (degr1 v0_4)))]), (degr (degr r22))] gh25) fun r26 gh27 => unT 2 r26 fun r28 r29 => unB (degr1 (degr1 r28)) fun b30 => unB (degr1 (degr1 r29)) fun b31 => stK 0 (degr1 (degr1 r3)) (stK 0 (degr1 (degr1 r8)) (stK 0 r22 (stK 0 r24 (stK 0 (degr1 (degr1 r3)) (stK 0 (degr1 (degr1 r8)) (stK 0 r22 (stK 0 r24 (
  kR (runL pg f_law_EvalValues_k1 ⟨[(7, (degr1 (degr1 r3))), (8, I n5), (9, (degr1 (degr1 r8))), (10, I n10), (11, B b16), (12, B b17), (13, I n18), (14, I n21), (15, r22), (16, r24), (17, B b30), (18, B b31)], [], gh27⟩) (fun e s => some (e, s))))))))))))))))))))))))))))))))))))))))))) (stK 0 (degr1 (degr1 r3)) (stK 0 (degr1 (degr1 r8)) (
  kR (runL pg f_law_EvalValues_k1 ⟨[(7, (degr1 (degr1 r3))), (8, I n5), (9, (degr1 (degr1 r8))), (10, I n10), (11, B b16), (12, B b17), (13, I n18), (14, I n21), (15, .sl true 1 []), (16, .sl true 1 []), (17, B false), (18, B false)], [], gh20⟩) (fun e s => some (e, s)))))))))))))))))))))))))))))))))))))))))))))))))))))))))))))))))))))
theorem D_law_EvalValues_0_ok {v0_0 v0_1 : PV} {v0_2 v0_3 : PV} {v0_4 v1 v2 : PV} (h : D_law_EvalValues_0 pg v0_0 v0_1 v0_2 v0_3 v0_4 v1 v2 gh = some (e, s)) : runL pg f_law_EvalValues_0 ⟨[(0, .agg [v0_0, v0_1, v0_2, v0_3, v0_4]), (1, v1), (2, v2)], [], gh⟩ = some (e, s) :=
  runX_ok an_law_EvalValues (Eq.trans (by kernel_rfl) h)
end
end Go.Lw
end
