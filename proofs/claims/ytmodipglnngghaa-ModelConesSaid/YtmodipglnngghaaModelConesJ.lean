/-
  The texts that the proof stands on, part 10.
-/
import Derived.Test.YtmodipglnngghaaModelConesI
import Derived.KernelRfl
set_option linter.unusedVariables false
set_option linter.unusedSimpArgs false
set_option linter.unnecessarySimpa false

/-! Models: all pairs, marks, and the whole check (the program). -/
section
namespace Go.Lw
open Go

/-- What is wrong with the pairs of a model. -/
def pairsAll (m : Md) (f : List Bool) : Int :=
  if pairsE m.nodes f true m.inits ≠ 0 then pairsE m.nodes f true m.inits else if pairsE m.nodes f false m.nexts ≠ 0 then pairsE m.nodes f false m.nexts
  else if twice m.inits ∨ twice m.nexts then 6 else 0

section
variable {m : Md} {gh : List GObj}

theorem pairs_l1 {f : List Bool} (hf : f.length = m.nodes.length) (h1 : Sz m.inits.length) (h2 : Sz m.nexts.length) :
    runL pg f_model_checker_pairs_l1 ⟨[(0, .ptr true gh.length 0), (23, twoL m), (24, I 2), (25, I 0)], [], ckG gh m f⟩ =
      if pairsE m.nodes f true m.inits ≠ 0 then some (.ret, ⟨[(2, I (pairsE m.nodes f true m.inits))], [], ckG gh m f⟩)
      else if pairsE m.nodes f false m.nexts ≠ 0 then some (.ret, ⟨[(2, I (pairsE m.nodes f false m.nexts))], [], ckG gh m f⟩)
      else some (.normal, ⟨[(0, .ptr true gh.length 0)], [], ckG gh m f⟩) := by
  have l1 := pairs_loop2 (gh := gh) (m := m) (ps := m.inits) (k := 0) hf h1 m.inits.length 0 (by omega)
  have l2 := pairs_loop2 (gh := gh) (m := m) (ps := m.nexts) (k := 1) hf h2 m.nexts.length 0 (by omega)
  rw [List.drop_zero] at l1 l2
  unfold pr2St at l1 l2
  simp only [Int.natCast_zero, decide_true] at l1 l2
  rw [show decide (1 = 0) = false from rfl] at l2
  simp only [Int.natCast_one] at l1 l2
  have w1 : IntKind.i64.wrap (0 + 1) = 1 := by decide
  have w2 : IntKind.i64.wrap (1 + 1) = 2 := by decide
  have k1 : ∀ x, runL pg f_model_checker_pairs_k1 ⟨[(0, .ptr true gh.length 0), (23, twoL m), (24, I 2), (25, I x)], [], ckG gh m f⟩ = some (.normal, ⟨[(0, .ptr true gh.length 0), (23, twoL m), (24, I 2), (25, I (IntKind.i64.wrap (x + 1)))], [], ckG gh m f⟩) := fun x => by
    refine D_model_checker_pairs_k1_ok ?_
    simp [D_model_checker_pairs_k1]
  generalize ckG gh m f = g0 at *
  by_cases e1 : pairsE m.nodes f true m.inits = 0
  · rw [if_pos e1] at l1
    rw [if_neg (fun h => h e1)]
    have k10 := k1 0
    rw [w1] at k10
    refine lp_next (s1 := ⟨[(0, .ptr true gh.length 0), (23, twoL m), (24, I 2), (25, I 1)], [], g0⟩) (D_model_checker_pairs_b1_ok (by simp [D_model_checker_pairs_b1, l1, k10])) ?_
    by_cases e2 : pairsE m.nodes f false m.nexts = 0
    · rw [if_pos e2] at l2
      rw [if_neg (fun h => h e2)]
      have k11 := k1 1
      rw [w2] at k11
      refine lp_next (s1 := ⟨[(0, .ptr true gh.length 0), (23, twoL m), (24, I 2), (25, I 2)], [], g0⟩) (D_model_checker_pairs_b1_ok (by simp [D_model_checker_pairs_b1, l2, k11])) ?_
      refine (lp_exit (s1 := ?s1) (D_model_checker_pairs_b1_ok ?h1)).trans ?r1
      case h1 => simp [D_model_checker_pairs_b1]; rfl
      case r1 => simp [keep, stays]
    · rw [if_neg e2] at l2
      rw [if_pos e2]
      refine lp_ret (D_model_checker_pairs_b1_ok ?_)
      simp [D_model_checker_pairs_b1, l2]
  · rw [if_neg e1] at l1
    rw [if_pos e1]
    refine lp_ret (D_model_checker_pairs_b1_ok ?_)
    simp [D_model_checker_pairs_b1, l1]

theorem pairs_l3 (h1 : Sz m.inits.length) (h2 : Sz m.nexts.length) : ∃ g2,
    runL pg f_model_checker_pairs_l3 ⟨[(56, twoL m), (57, I 2), (58, I 0)], [], gh⟩ =
      if twice m.inits ∨ twice m.nexts then some (.ret, ⟨[(2, I 6)], [], gh ++ g2⟩) else some (.normal, ⟨[], [], gh ++ g2⟩) := by
  have b1 := pairs_b3 (gh := gh) (m := m) (ps := m.inits) (k := 0) (.inl ⟨rfl, rfl⟩) h1
  have b2 := fun g => pairs_b3 (gh := g) (m := m) (ps := m.nexts) (k := 1) (.inr ⟨rfl, rfl⟩) h2
  simp only [Int.natCast_zero, Int.natCast_one, Nat.zero_add, show ((1 + 1 : Nat) : Int) = 2 from rfl] at b1 b2
  generalize insA [] (m.inits.map (·.1)) = A at *
  generalize insA [] (m.nexts.map (·.1)) = B at *
  by_cases t1 : twice m.inits
  · rw [if_pos t1] at b1
    exact ⟨_, by rw [if_pos (.inl t1)]; exact lp_ret b1⟩
  · rw [if_neg t1] at b1
    have b2 := b2 (gh ++ [.map (mapB A)])
    by_cases t2 : twice m.nexts
    · rw [if_pos t2] at b2
      refine ⟨[.map (mapB A)] ++ [.map (mapB B)], ?_⟩
      rw [if_pos (.inr t2), ← List.append_assoc]
      exact lp_next b1 (lp_ret b2)
    · rw [if_neg t2] at b2
      refine ⟨[.map (mapB A)] ++ [.map (mapB B)], ?_⟩
      rw [if_neg (by rintro (h | h) <;> contradiction), ← List.append_assoc]
      refine lp_next b1 (lp_next b2 ((lp_exit (s1 := ?s1) (D_model_checker_pairs_b3_ok ?h1)).trans ?r1))
      case h1 => simp [D_model_checker_pairs_b3]; rfl
      case r1 => simp [keep]

theorem pairs_eq {f : List Bool} (hf : f.length = m.nodes.length) (h1 : Sz m.inits.length) (h2 : Sz m.nexts.length) :
    callL pg 79 [.ptr true gh.length 0] (ckG gh m f) = some (I (pairsAll m f), ckG gh m f) := by
  have l1 := pairs_l1 (gh := gh) hf h1 h2
  obtain ⟨g2, l3⟩ := pairs_l3 (m := m) (gh := ckG gh m f) h1 h2
  have hg := ckG_get (gh := gh) (m := m) (f := f)
  unfold pairsAll
  have k5 : ∀ g, runL pg f_model_checker_pairs_k5 ⟨[], [], g⟩ = some (.ret, ⟨[(2, I 0)], [], g⟩) := fun g => D_model_checker_pairs_k5_ok rfl
  have k2 : runL pg f_model_checker_pairs_k2 ⟨[(0, .ptr true gh.length 0)], [], ckG gh m f⟩ = some (.ret, ⟨[(2, I (if twice m.inits ∨ twice m.nexts then 6 else 0))], [], ckG gh m f ++ g2⟩) := by
    refine D_model_checker_pairs_k2_ok ?_
    generalize ckG gh m f = g0 at *
    have k5 := k5 (g0 ++ g2)
    by_cases t : twice m.inits ∨ twice m.nexts
    · rw [if_pos t] at l3
      simp [D_model_checker_pairs_k2, hg, l3, t]
    · rw [if_neg t] at l3
      simp [D_model_checker_pairs_k2, hg, l3, t, k5]
  generalize (if twice m.inits ∨ twice m.nexts then (6 : Int) else 0) = r at *
  generalize ckG gh m f = g0 at *
  by_cases e1 : pairsE m.nodes f true m.inits = 0
  · rw [if_neg (fun h => h e1)] at l1 ⊢
    by_cases e2 : pairsE m.nodes f false m.nexts = 0
    · rw [if_neg (fun h => h e2)] at l1 ⊢
      refine callL_fn (fn := f_model_checker_pairs) (s := ?s1) rfl rfl (D_model_checker_pairs_0_ok ?h1) ?r1
      case h1 => simp [D_model_checker_pairs_0, hg, l1, k2]; rfl
      case r1 => simp [finish, results, f_model_checker_pairs, resOfs, resOf, resOk]
    · rw [if_pos e2] at l1 ⊢
      refine callL_fn (fn := f_model_checker_pairs) (s := ?s2) rfl rfl (D_model_checker_pairs_0_ok ?h2) ?r2
      case h2 => simp [D_model_checker_pairs_0, hg, l1]; rfl
      case r2 => simp [finish, results, f_model_checker_pairs, resOfs, resOf, resOk]
  · rw [if_pos e1] at l1 ⊢
    refine callL_fn (fn := f_model_checker_pairs) (s := ?s3) rfl rfl (D_model_checker_pairs_0_ok ?h3) ?r3
    case h3 => simp [D_model_checker_pairs_0, hg, l1]; rfl
    case r3 => simp [finish, results, f_model_checker_pairs, resOfs, resOf, resOk]

/-! ### marks -/
/-- What is wrong with the marks of a model. -/
def marksE (m : Md) : Int :=
  if m.nexts.length < (kindL m.nodes 3).length then 5 else if (m.bads ++ m.holds).any (fun a => !decide (isNo m.nodes a)) then 5
  else if (m.bads ++ m.holds).any (fun a => !decide (wAt m.nodes a = 1)) then 1 else 0

theorem marks1_eq {f : List Bool} {n : Int} {g : List GObj} {b c : Nat} (hb : g[b]? = some (.cells [LN m.nodes, LP m.inits, LP m.nexts, LI m.bads, LI m.holds, .sl true 1 (f.map B)])) (hc : g[c]? = some (.cells [.ptr true b 0])) :
    callL pg 108 [I n, .ptr true c 0] g = some (B (!decide (isNo m.nodes n)), g) := by
  have i1 := is_eq (n := n) hb
  generalize decide (isNo m.nodes n) = d at *
  refine callL_fn (fn := f_model_checker_marks_1) (s := ?s1) rfl rfl (D_model_checker_marks_1_0_ok ?h1) ?r1
  case h1 => simp [D_model_checker_marks_1_0, hc, i1]; rfl
  case r1 => simp [finish, results, f_model_checker_marks_1, resOfs, resOf, resOk]

theorem marks2_eq {f : List Bool} {n : Int} {g : List GObj} {b c : Nat} (hb : g[b]? = some (.cells [LN m.nodes, LP m.inits, LP m.nexts, LI m.bads, LI m.holds, .sl true 1 (f.map B)])) (hc : g[c]? = some (.cells [.ptr true b 0])) (hn : isNo m.nodes n) :
    callL pg 109 [I n, .ptr true c 0] g = some (B (!decide (wAt m.nodes n = 1)), g) := by
  have n1 := node_at hn
  have h0 := hn.1
  unfold wAt
  generalize m.nodes.getD n.toNat default = d1 at *
  rw [nodeV_def d1] at n1
  refine callL_fn (fn := f_model_checker_marks_2) (s := ?s1) rfl rfl (D_model_checker_marks_2_0_ok ?h1) ?r1
  case h1 => simp [D_model_checker_marks_2_0, hb, hc, h0, n1, -List.getElem?_map]; rfl
  case r1 => simp [finish, results, f_model_checker_marks_2, resOfs, resOf, resOk]

theorem marks_eq {f : List Bool} (hl : m.nodes.length ≤ 1000) (h1 : m.bads.length ≤ 100) (h2 : m.holds.length ≤ 100) :
    callL pg 80 [.ptr true gh.length 0] (ckG gh m f) = some (I (marksE m), ckG gh m f) := by
  have hg := ckG_get (gh := gh) (m := m) (f := f)
  have hlen : (ckG gh m f).length = gh.length + 1 := by simp [ckG]
  generalize ckG gh m f = g0 at *
  obtain ⟨g1, hg1⟩ : ∃ g1, g1 = g0 ++ [GObj.cells [.ptr true gh.length 0]] := ⟨_, rfl⟩
  have htk : g1.take g0.length = g0 := by rw [hg1]; simp
  have hb : g1[gh.length]? = some (.cells [LN m.nodes, LP m.inits, LP m.nexts, LI m.bads, LI m.holds, .sl true 1 (f.map B)]) := by
    rw [hg1, List.getElem?_append_left (by omega)]; exact hg
  have hc : g1[g0.length]? = some (.cells [.ptr true gh.length 0]) := by rw [hg1]; simp
  have ho := Ofk_eq (m := m) (gh := g1) (kind := 3) hl
  rw [modelV_def] at ho
  have hmx : ((m.bads.map I).length + (m.holds.map I).length) * 8 ≤ maxBytes := by
    have : maxBytes = 140737488355328 := rfl
    simp; omega
  have hsz : Sz (m.bads ++ m.holds).length := by simp only [Sz, List.length_append]; omega
  have hcc := Concat_eq (gh := g1) (X := m.bads.map I) (Y := m.holds.map I) (noGs_ints _) (noGs_ints _) hmx
  rw [← List.map_append] at hcc
  have c1 := ContainsFunc_eq (xs := m.bads ++ m.holds) (c := 108) (caps := [.ptr true g0.length 0]) (gh := g1) (fun x _ => marks1_eq (n := x) hb hc) rfl hsz
  have c2 : (∀ a ∈ m.bads ++ m.holds, isNo m.nodes a) → _ := fun hn => ContainsFunc_eq (xs := m.bads ++ m.holds) (c := 109) (caps := [.ptr true g0.length 0]) (gh := g1) (fun x hx => marks2_eq hb hc (hn x hx)) rfl hsz
  have hnb : (m.bads ++ m.holds).any (fun a => !decide (isNo m.nodes a)) = false → ∀ a ∈ m.bads ++ m.holds, isNo m.nodes a := fun h a ha => by
    have := List.any_eq_false.1 h a ha
    simpa using this
  unfold marksE
  generalize (m.bads ++ m.holds).any (fun a => !decide (isNo m.nodes a)) = p1 at *
  generalize (m.bads ++ m.holds).any (fun a => !decide (wAt m.nodes a = 1)) = p2 at *
  generalize hK : kindL m.nodes 3 = K at *
  have hKl : (K.map I).length = K.length := by simp
  have hXl : (m.nexts.map andV).length = m.nexts.length := by simp
  simp only [LI] at *
  generalize (m.bads ++ m.holds).map I = M at *
  generalize m.bads.map I = M1 at *
  generalize m.holds.map I = M2 at *
  generalize K.map I = K' at *
  generalize m.nexts.map andV = X' at *
  by_cases e1 : m.nexts.length < K.length
  · rw [if_pos e1]
    refine callL_fn (fn := f_model_checker_marks) (s := ⟨[(2, I 5)], [], g1⟩) rfl rfl (D_model_checker_marks_0_ok ?h1) ?r1
    case h1 => simp only [D_model_checker_marks_0]; rw [← hg1]; simp [hb, hc, ho, hKl, e1]
    case r1 => simp [finish, results, f_model_checker_marks, resOfs, resOf, resOk, htk]
  · rw [if_neg e1]
    cases p1 with
    | true =>
      rw [if_pos rfl]
      refine callL_fn (fn := f_model_checker_marks) (s := ⟨[(2, I 5)], [], g1⟩) rfl rfl (D_model_checker_marks_0_ok ?h2) ?r2
      case h2 => simp only [D_model_checker_marks_0]; rw [← hg1]; simp [hb, hc, ho, hKl, e1, hcc, c1]
      case r2 => simp [finish, results, f_model_checker_marks, resOfs, resOf, resOk, htk]
    | false =>
      rw [if_neg (by simp)]
      have c2 := c2 (hnb rfl)
      cases p2 with
      | true =>
        rw [if_pos rfl]
        refine callL_fn (fn := f_model_checker_marks) (s := ⟨[(2, I 1)], [], g1⟩) rfl rfl (D_model_checker_marks_0_ok ?h3) ?r3
        case h3 => simp only [D_model_checker_marks_0]; rw [← hg1]; simp [hb, hc, ho, hKl, e1, hcc, c1, c2]
        case r3 => simp [finish, results, f_model_checker_marks, resOfs, resOf, resOk, htk]
      | false =>
        rw [if_neg (by simp)]
        refine callL_fn (fn := f_model_checker_marks) (s := ⟨[(2, I 0)], [], g1⟩) rfl rfl (D_model_checker_marks_0_ok ?h4) ?r4
        case h4 => simp only [D_model_checker_marks_0]; rw [← hg1]; simp [hb, hc, ho, hKl, e1, hcc, c1, c2]
        case r4 => simp [finish, results, f_model_checker_marks, resOfs, resOf, resOk, htk]

/-! ### the whole check -/
/-- What is wrong with the nodes, from number i on. -/
def nodesE (L : List Nd) : Nat → List Nd → Int
  | _, [] => 0
  | i, x :: l => if nodeE L i x = 0 then nodesE L (i + 1) l else nodeE L i x

def checkE (m : Md) : Int :=
  if m.nodes.length > 80 ∨ m.bads.length > 8 ∨ m.holds.length > 8 then 2
  else if nodesE m.nodes 0 m.nodes ≠ 0 then nodesE m.nodes 0 m.nodes
  else if bitsK m.nodes 2 > 6 ∨ bitsK m.nodes 3 > 10 then 2
  else if pairsAll m (hangF [] m.nodes) ≠ 0 then pairsAll m (hangF [] m.nodes) else marksE m

theorem nodesE_zero {L : List Nd} : ∀ {i : Nat} {l : List Nd}, nodesE L i l = 0 → ∀ j x, l[j]? = some x → nodeE L ((i + j : Nat) : Int) x = 0
  | i, y :: l, h, 0, x, hx => by
    rw [nodesE] at h
    simp at hx
    subst hx
    split at h
    · assumption
    · contradiction
  | i, y :: l, h, j + 1, x, hx => by
    rw [nodesE] at h
    split at h
    · have := nodesE_zero h j x (by simpa using hx)
      rw [show i + (j + 1) = i + 1 + j by omega]; exact this
    · contradiction

theorem ahead_of {L : List Nd} (h : nodesE L 0 L = 0) : Ahead L := by
  intro i x hx a ha
  have h0 := nodesE_zero h i x hx
  rw [Nat.zero_add] at h0
  unfold nodeE at h0
  split at h0
  · omega
  rename_i hk
  split at h0
  · omega
  split at h0
  · rename_i hk3
    unfold argsL at ha
    rw [takes_leaf ⟨by omega, hk3⟩] at ha
    simp at ha
  split at h0
  · omega
  rename_i hb
  unfold badArgs badJ at hb
  simp only [not_or] at hb
  obtain ⟨b0, b1, b2⟩ := hb
  unfold argsL at ha
  rcases takes_cases x.k with ht | ht | ht | ht <;> rw [ht] at ha b0 b1 b2 <;> simp at ha b0 b1 b2
  · subst ha; exact ⟨by omega, by omega⟩
  · rcases ha with rfl | rfl <;> exact ⟨by omega, by omega⟩
  · rcases ha with rfl | rfl | rfl <;> exact ⟨by omega, by omega⟩

theorem MCheck_loop (hl : m.nodes.length ≤ 1000) : ∀ k i, i + k = m.nodes.length →
    runL pg f_model_Check_l1 ⟨[(1, .ptr false 0 0), (27, I m.nodes.length), (28, I (i : Int))], [[LN m.nodes, LP m.inits, LP m.nexts, LI m.bads, LI m.holds]], gh⟩ =
      if nodesE m.nodes i (m.nodes.drop i) = 0 then some (.normal, ⟨[(1, .ptr false 0 0)], [[LN m.nodes, LP m.inits, LP m.nexts, LI m.bads, LI m.holds]], gh⟩)
      else some (.ret, ⟨[(2, I (nodesE m.nodes i (m.nodes.drop i)))], [], gh⟩)
  | 0, i, h => by
    rw [List.drop_eq_nil_of_le (by omega), nodesE, if_pos rfl]
    have hlt : ¬ (i : Int) < (m.nodes.length : Int) := by omega
    refine (lp_exit (s1 := ?s1) (D_model_Check_b1_ok ?h1)).trans ?r1
    case h1 => simp only [D_model_Check_b1, decide_eq_false hlt, br_false]; rfl
    case r1 => simp [keep, stays]
  | k + 1, i, h => by
    have hlt : i < m.nodes.length := by omega
    have hltI : (i : Int) < (m.nodes.length : Int) := by omega
    have e2 : IntKind.i64.wrap ((i : Int) + 1) = ((i + 1 : Nat) : Int) := by rw [wrap_id (by omega) (by omega)]; omega
    have hn := node_eq (l := m.nodes) (gh := gh) (idx := i) (List.getElem?_eq_getElem hlt)
    rw [List.drop_eq_getElem_cons hlt, nodesE]
    generalize nodeE m.nodes (i : Int) m.nodes[i] = r at *
    by_cases he : r = 0
    · rw [if_pos he]
      refine lp_next (s1 := ⟨[(1, .ptr false 0 0), (27, I m.nodes.length), (28, I ((i + 1 : Nat) : Int))], [[LN m.nodes, LP m.inits, LP m.nexts, LI m.bads, LI m.holds]], gh⟩) (D_model_Check_b1_ok ?_) (MCheck_loop hl k (i + 1) (by omega))
      simp [D_model_Check_b1, hltI, hn, he, e2]
    · rw [if_neg he, if_neg he]
      refine lp_ret (D_model_Check_b1_ok ?_)
      simp [D_model_Check_b1, hltI, hn, he]

theorem MCheck_eq (h1 : Sz m.inits.length) (h2 : Sz m.nexts.length) : callL pg 38 [modelV m] gh = some (I (checkE m), gh) := by
  unfold checkE
  have hNl : (m.nodes.map nodeV).length = m.nodes.length := by simp
  have hBl : (m.bads.map I).length = m.bads.length := by simp
  have hHl : (m.holds.map I).length = m.holds.length := by simp
  rw [modelV_def]
  by_cases c1 : m.nodes.length > 80 ∨ m.bads.length > 8 ∨ m.holds.length > 8
  · rw [if_pos c1]
    refine callL_fn (fn := f_model_Check) (s := ⟨[(2, I 2)], [], gh⟩) rfl rfl (D_model_Check_0_ok ?h1) ?r1
    case r1 => simp [finish, results, f_model_Check, resOfs, resOf, resOk]
    case h1 =>
      by_cases d1 : (80 : Int) < (m.nodes.length : Int)
      · simp [D_model_Check_0, d1]
      · by_cases d2 : (8 : Int) < (m.bads.length : Int)
        · simp [D_model_Check_0, d1, d2]
        · have d3 : (8 : Int) < (m.holds.length : Int) := by omega
          simp [D_model_Check_0, d1, d2, d3]
  · rw [if_neg c1]
    have d1 : ¬ (80 : Int) < (m.nodes.length : Int) := by omega
    have d2 : ¬ (8 : Int) < (m.bads.length : Int) := by omega
    have d3 : ¬ (8 : Int) < (m.holds.length : Int) := by omega
    have hl := MCheck_loop (m := m) (gh := gh) (by omega) m.nodes.length 0 (by omega)
    rw [List.drop_zero] at hl
    simp only [Int.natCast_zero] at hl
    by_cases hn : nodesE m.nodes 0 m.nodes = 0
    · rw [if_neg (fun h => h hn)]
      rw [if_pos hn] at hl
      have hb := Bits_eq (m := m) (gh := gh) (by omega)
      rw [modelV_def] at hb
      have hlen := lean_eq (m := m) (gh := gh) (ahead_of hn) (by omega)
      have hf : (hangF [] m.nodes).length = m.nodes.length := by simpa using hangF_len [] m.nodes
      have hp := pairs_eq (gh := gh) hf h1 h2
      have hm := marks_eq (m := m) (gh := gh) (f := hangF [] m.nodes) (by omega) (by omega) (by omega)
      have htk : (ckG gh m (hangF [] m.nodes)).take gh.length = gh := by simp [ckG]
      have hck : ckG gh m [] = gh ++ [GObj.cells [LN m.nodes, LP m.inits, LP m.nexts, LI m.bads, LI m.holds, .sl true 1 []]] := rfl
      generalize ckG gh m (hangF [] m.nodes) = g1 at *
      generalize pairsAll m (hangF [] m.nodes) = r at *
      rw [hck] at hlen
      by_cases hbt : bitsK m.nodes 2 > 6 ∨ bitsK m.nodes 3 > 10
      · rw [if_pos hbt]
        have k1 : runL pg f_model_Check_k1 ⟨[(1, .ptr false 0 0)], [[LN m.nodes, LP m.inits, LP m.nexts, LI m.bads, LI m.holds]], gh⟩ = some (.ret, ⟨[(2, I 2)], [], gh⟩) := by
          refine D_model_Check_k1_ok ?_
          by_cases b1 : 6 < bitsK m.nodes 2
          · simp [D_model_Check_k1, hb, b1]
          · have b2 : 10 < bitsK m.nodes 3 := by omega
            simp [D_model_Check_k1, hb, b1, b2]
        refine callL_fn (fn := f_model_Check) (s := ⟨[(2, I 2)], [], gh⟩) rfl rfl (D_model_Check_0_ok ?h2) ?r2
        case r2 => simp [finish, results, f_model_Check, resOfs, resOf, resOk]
        case h2 => simp [D_model_Check_0, d1, d2, d3, hl, k1]
      · rw [if_neg hbt]
        have b1 : ¬ 6 < bitsK m.nodes 2 := by omega
        have b2 : ¬ 10 < bitsK m.nodes 3 := by omega
        by_cases hr : r = 0
        · rw [if_neg (fun h => h hr)]
          have k1 : runL pg f_model_Check_k1 ⟨[(1, .ptr false 0 0)], [[LN m.nodes, LP m.inits, LP m.nexts, LI m.bads, LI m.holds]], gh⟩ = some (.ret, ⟨[(2, I (marksE m))], [], g1⟩) := by
            refine D_model_Check_k1_ok ?_
            simp [D_model_Check_k1, hb, b1, b2, hlen, hp, hr, hm]
          refine callL_fn (fn := f_model_Check) (s := ⟨[(2, I (marksE m))], [], g1⟩) rfl rfl (D_model_Check_0_ok ?h3) ?r3
          case r3 => simp [finish, results, f_model_Check, resOfs, resOf, resOk, htk]
          case h3 => simp [D_model_Check_0, d1, d2, d3, hl, k1]
        · rw [if_pos hr]
          have k1 : runL pg f_model_Check_k1 ⟨[(1, .ptr false 0 0)], [[LN m.nodes, LP m.inits, LP m.nexts, LI m.bads, LI m.holds]], gh⟩ = some (.ret, ⟨[(2, I r)], [], g1⟩) := by
            refine D_model_Check_k1_ok ?_
            simp [D_model_Check_k1, hb, b1, b2, hlen, hp, hr]
          refine callL_fn (fn := f_model_Check) (s := ⟨[(2, I r)], [], g1⟩) rfl rfl (D_model_Check_0_ok ?h4) ?r4
          case r4 => simp [finish, results, f_model_Check, resOfs, resOf, resOk, htk]
          case h4 => simp [D_model_Check_0, d1, d2, d3, hl, k1]
    · rw [if_pos hn]
      rw [if_neg hn] at hl
      generalize nodesE m.nodes 0 m.nodes = r at *
      refine callL_fn (fn := f_model_Check) (s := ⟨[(2, I r)], [], gh⟩) rfl rfl (D_model_Check_0_ok ?h5) ?r5
      case r5 => simp [finish, results, f_model_Check, resOfs, resOf, resOk]
      case h5 => simp [D_model_Check_0, d1, d2, d3, hl]

end
end Go.Lw
end

/-! What the code of function model_of comes to, piece by piece. Written by program (dprint.py). -/
section
set_option maxRecDepth 10000
set_option maxHeartbeats 4000000
namespace Go.Lw
open Go

def an_model_of : Tr := (.node 8 (.ce (.int .i64)) (.node 5 (.ce (.int .i64)) (.node 1 (.ce (.int .i64)) (.node 0 (.agg [.any, .any, .any, .any, .any]) .nil .nil) (.node 4 (.ce (.one)) .nil .nil)) (.node 7 (.agg [.any, .any, .any, .any, .any]) (.node 6 (.ce (.int .i64)) .nil .nil) .nil)) (.node 12 (.agg [.any, .any, .any, .any, .any]) (.node 10 (.ce (.bool)) (.node 9 (.ce (.int .i64)) .nil .nil) (.node 11 (.ce (.int .i64)) .nil .nil)) (.node 14 (.ce (.one)) (.node 13 (.ce (.int .i64)) .nil .nil) .nil)))

noncomputable def D_model_of_0 (pg : Prg) (v0_0 : PV) (v0_1 : PV) (v0_2 : PV) (v0_3 : PV) (v0_4 : PV) (x1 : Int) (gh : List GObj) : Option (IExit × St) := onK (degr1 v0_0) (onK (degr1 v0_1) (onK (degr1 v0_2) (onK (degr1 v0_3) (onK (degr1 v0_4) (onK (degr1 (degr1 (degr1 v0_0))) (onK (degr1 (degr1 (degr1 v0_1))) (onK (degr1 (degr1 (degr1 v0_2))) (onK (degr1 (degr1 (degr1 v0_3))) (onK (degr1 (degr1 (degr1 v0_4))) (
  callR gh true (callL pg 38 [(.agg [(degr1 (degr1 (degr1 v0_0))), (degr1 (degr1 (degr1 v0_1))), (degr1 (degr1 (degr1 v0_2))), (degr1 (degr1 (degr1 v0_3))), (degr1 (degr1 (degr1 v0_4)))])] gh) fun r1 gh2 => unI .i64 r1 fun n3 => 
  br 10 (n3 != 0) (some (.ret, ⟨[(4, (.sl true 1 [])), (5, (.int .i64 n3))], [], gh2⟩)) (onK (degr1 (degr1 (degr1 v0_0))) (onK (degr1 (degr1 (degr1 v0_1))) (onK (degr1 (degr1 (degr1 v0_2))) (onK (degr1 (degr1 (degr1 v0_3))) (onK (degr1 (degr1 (degr1 v0_4))) (
  callR gh2 true (callL pg 101 [(.agg [(degr1 (degr1 (degr1 v0_0))), (degr1 (degr1 (degr1 v0_1))), (degr1 (degr1 (degr1 v0_2))), (degr1 (degr1 (degr1 v0_3))), (degr1 (degr1 (degr1 v0_4)))]), (.int .i64 x1)] gh2) fun r4 gh5 => isC r4 (stK 0 r4 (some (.ret, ⟨[(4, r4), (5, (.int .i64 0))], [], gh5⟩)))))))))))))))))))

theorem D_model_of_0_ok {pg : Prg} {gh : List GObj} {v0_0 : PV} {v0_1 : PV} {v0_2 : PV} {v0_3 : PV} {v0_4 : PV} {x1 : Int} {e : IExit} {s : St} (h : D_model_of_0 pg v0_0 v0_1 v0_2 v0_3 v0_4 x1 gh = some (e, s)) : runL pg f_model_of_0 ⟨[(0, (.agg [v0_0, v0_1, v0_2, v0_3, v0_4])), (1, (.int .i64 x1))], [], gh⟩ = some (e, s) :=
  runX_ok an_model_of (Eq.trans (by kernel_rfl) h)

end Go.Lw
end

/-! What the code of function model_States comes to, piece by piece. Written by program (dprint.py). -/
section
set_option maxRecDepth 10000
set_option maxHeartbeats 4000000
namespace Go.Lw
open Go

def an_model_States : Tr := (.node 4 (.agg [.any, .any, .any, .any, .any]) (.node 2 (.ce (.one)) (.node 0 (.agg [.any, .any, .any, .any, .any]) .nil .nil) (.node 3 (.ce (.int .i64)) .nil .nil)) (.node 6 (.ce (.one)) (.node 5 (.tup 2) .nil .nil) (.node 7 (.ce (.int .i64)) .nil .nil)))

noncomputable def D_model_States_0 (pg : Prg) (v0_0 : PV) (v0_1 : PV) (v0_2 : PV) (v0_3 : PV) (v0_4 : PV) (gh : List GObj) : Option (IExit × St) := onK (degr1 v0_0) (onK (degr1 v0_1) (onK (degr1 v0_2) (onK (degr1 v0_3) (onK (degr1 v0_4) (onK (degr1 (degr1 (degr1 v0_0))) (onK (degr1 (degr1 (degr1 v0_1))) (onK (degr1 (degr1 (degr1 v0_2))) (onK (degr1 (degr1 (degr1 v0_3))) (onK (degr1 (degr1 (degr1 v0_4))) (
  callR gh true (callL pg 71 [(.agg [(degr1 (degr1 (degr1 v0_0))), (degr1 (degr1 (degr1 v0_1))), (degr1 (degr1 (degr1 v0_2))), (degr1 (degr1 (degr1 v0_3))), (degr1 (degr1 (degr1 v0_4)))]), (.int .i64 3)] gh) fun r1 gh2 => unT 2 r1 fun r3 r4 => isC (degr1 r3) (unI .i64 (degr1 r4) fun n5 => stK 0 (degr1 r3) (some (.ret, ⟨[(2, (degr1 r3)), (3, (.int .i64 n5))], [], gh2⟩)))))))))))))

theorem D_model_States_0_ok {pg : Prg} {gh : List GObj} {v0_0 : PV} {v0_1 : PV} {v0_2 : PV} {v0_3 : PV} {v0_4 : PV} {e : IExit} {s : St} (h : D_model_States_0 pg v0_0 v0_1 v0_2 v0_3 v0_4 gh = some (e, s)) : runL pg f_model_States_0 ⟨[(0, (.agg [v0_0, v0_1, v0_2, v0_3, v0_4]))], [], gh⟩ = some (e, s) :=
  runX_ok an_model_States (Eq.trans (by kernel_rfl) h)

end Go.Lw
end

/-! What the code of function ref_Nodes comes to, piece by piece. Written by program (dprint.py). -/
section
set_option maxRecDepth 10000
set_option maxHeartbeats 4000000
namespace Go.Lw
open Go

def an_ref_Nodes : Tr := (.node 13 (.ce (.int .i64)) (.node 7 (.ce (.int .i64)) (.node 4 (.ce (.one)) (.node 1 (.ce (.int .i64)) (.node 0 (.agg [.any, .any, .any, .any, .any]) .nil .nil) .nil) (.node 6 (.ce (.int .i64)) (.node 5 (.ce (.one)) .nil .nil) .nil)) (.node 11 (.ce (.bool)) (.node 10 (.ce (.int .i64)) (.node 9 (.ce (.one)) .nil .nil) .nil) (.node 12 (.ce (.int .i64)) .nil .nil))) (.node 22 (.ce (.one)) (.node 19 (.ce (.int .i64)) (.node 16 (.ce (.int .i64)) (.node 15 (.ce (.one)) .nil .nil) .nil) (.node 21 (.ce (.bool)) (.node 20 (.ce (.int .i64)) .nil .nil) .nil)) (.node 25 (.ce (.one)) (.node 24 (.ce (.one)) (.node 23 (.ce (.int .i64)) .nil .nil) .nil) (.node 26 (.ce (.one)) .nil .nil))))

noncomputable def D_ref_Nodes_k1 (pg : Prg) (x1 : Int) (v5 : PV) (x6 : Int) (vc0_0 : PV) (vc0_1 : PV) (vc0_2 : PV) (vc0_3 : PV) (vc0_4 : PV) (gh : List GObj) : Option (IExit × St) := stK 1 v5 (some (.normal, ⟨[(1, (.int .i64 x1)), (2, (.ptr false 0 0)), (5, v5), (6, (.int .i64 (IntKind.i64.wrap (x6 + 1))))], [[vc0_0, vc0_1, vc0_2, vc0_3, vc0_4]], gh⟩))

theorem D_ref_Nodes_k1_ok {pg : Prg} {gh : List GObj} {x1 : Int} {v5 : PV} {x6 : Int} {vc0_0 : PV} {vc0_1 : PV} {vc0_2 : PV} {vc0_3 : PV} {vc0_4 : PV} {e : IExit} {s : St} (h : D_ref_Nodes_k1 pg x1 v5 x6 vc0_0 vc0_1 vc0_2 vc0_3 vc0_4 gh = some (e, s)) : runL pg f_ref_Nodes_k1 ⟨[(1, (.int .i64 x1)), (2, (.ptr false 0 0)), (5, v5), (6, (.int .i64 x6))], [[vc0_0, vc0_1, vc0_2, vc0_3, vc0_4]], gh⟩ = some (e, s) :=
  runX_ok an_ref_Nodes (Eq.trans (by kernel_rfl) h)

noncomputable def D_ref_Nodes_b1 (pg : Prg) (x1 : Int) (v5 : PV) (x6 : Int) (vc0_0 : PV) (vc0_1 : PV) (vc0_2 : PV) (vc0_3 : PV) (vc0_4 : PV) (gh : List GObj) : Option (IExit × St) := isC (degr vc0_0) (lenS (degr (degr vc0_0)) fun n1 => stK 1 v5 (
  br 11 (decide (x6 < (n1 : Int))) (isC (degr vc0_0) (
  idX 6 none (degr (degr vc0_0)) x6 fun p2 => faX (degr p2) 0 fun p3 => 
  ldX [[vc0_0, vc0_1, vc0_2, vc0_3, vc0_4]] gh false 1 (degr p3) fun v4 => unI .i64 v4 fun n5 => stK 1 v5 (
  br 21 (n5 == x1) (
  apX 1 8 v5 (.sl false 1 [(.int .i64 x6)]) fun l6 => 
  kR (runL pg f_ref_Nodes_k1 ⟨[(1, (.int .i64 x1)), (2, (.ptr false 0 0)), (5, (.sl true 1 l6)), (6, (.int .i64 x6))], [[vc0_0, vc0_1, vc0_2, vc0_3, vc0_4]], gh⟩) (fun e s => po [1, 2, 5, 6] 1 e s (fun e s => some (e, s)))) (stK 1 v5 (
  kR (runL pg f_ref_Nodes_k1 ⟨[(1, (.int .i64 x1)), (2, (.ptr false 0 0)), (5, v5), (6, (.int .i64 x6))], [[vc0_0, vc0_1, vc0_2, vc0_3, vc0_4]], gh⟩) (fun e s => po [1, 2, 5, 6] 1 e s (fun e s => some (e, s)))))))) (some ((.exit 0), ⟨[(1, (.int .i64 x1)), (2, (.ptr false 0 0)), (5, v5), (6, (.int .i64 x6)), (11, (.bool (decide (x6 < (n1 : Int)))))], [[vc0_0, vc0_1, vc0_2, vc0_3, vc0_4]], gh⟩))))

theorem D_ref_Nodes_b1_ok {pg : Prg} {gh : List GObj} {x1 : Int} {v5 : PV} {x6 : Int} {vc0_0 : PV} {vc0_1 : PV} {vc0_2 : PV} {vc0_3 : PV} {vc0_4 : PV} {e : IExit} {s : St} (h : D_ref_Nodes_b1 pg x1 v5 x6 vc0_0 vc0_1 vc0_2 vc0_3 vc0_4 gh = some (e, s)) : runL pg f_ref_Nodes_b1 ⟨[(1, (.int .i64 x1)), (2, (.ptr false 0 0)), (5, v5), (6, (.int .i64 x6))], [[vc0_0, vc0_1, vc0_2, vc0_3, vc0_4]], gh⟩ = some (e, s) :=
  runX_ok an_ref_Nodes (Eq.trans (by kernel_rfl) h)

noncomputable def D_ref_Nodes_k2 (pg : Prg) (v5 : PV) (gh : List GObj) : Option (IExit × St) := isC (degr v5) (stK 0 (degr v5) (some (.ret, ⟨[(4, (degr v5))], [], gh⟩)))

theorem D_ref_Nodes_k2_ok {pg : Prg} {gh : List GObj} {v5 : PV} {e : IExit} {s : St} (h : D_ref_Nodes_k2 pg v5 gh = some (e, s)) : runL pg f_ref_Nodes_k2 ⟨[(5, v5)], [], gh⟩ = some (e, s) :=
  runX_ok an_ref_Nodes (Eq.trans (by kernel_rfl) h)

noncomputable def D_ref_Nodes_0 (pg : Prg) (v0_0 : PV) (v0_1 : PV) (v0_2 : PV) (v0_3 : PV) (v0_4 : PV) (x1 : Int) (gh : List GObj) : Option (IExit × St) := onK (degr1 v0_0) (onK (degr1 v0_1) (onK (degr1 v0_2) (onK (degr1 v0_3) (onK (degr1 v0_4) (
  kR (runL pg f_ref_Nodes_l1 ⟨[(1, (.int .i64 x1)), (2, (.ptr false 0 0)), (5, (.sl true 1 [])), (6, (.int .i64 0))], [[(degr1 v0_0), (degr1 v0_1), (degr1 v0_2), (degr1 v0_3), (degr1 v0_4)]], gh⟩) (fun e s => nx e s (fun e s => some (e, s)) fun s => kR (runL pg f_ref_Nodes_k2 s) (fun e s => some (e, s))))))))

theorem D_ref_Nodes_0_ok {pg : Prg} {gh : List GObj} {v0_0 : PV} {v0_1 : PV} {v0_2 : PV} {v0_3 : PV} {v0_4 : PV} {x1 : Int} {e : IExit} {s : St} (h : D_ref_Nodes_0 pg v0_0 v0_1 v0_2 v0_3 v0_4 x1 gh = some (e, s)) : runL pg f_ref_Nodes_0 ⟨[(0, (.agg [v0_0, v0_1, v0_2, v0_3, v0_4])), (1, (.int .i64 x1))], [], gh⟩ = some (e, s) :=
  runX_ok an_ref_Nodes (Eq.trans (by kernel_rfl) h)

end Go.Lw
end

/-! What the code of function ref_Bits comes to, piece by piece. Written by program (dprint.py). -/
section
set_option maxRecDepth 10000
set_option maxHeartbeats 4000000
namespace Go.Lw
open Go

def an_ref_Bits : Tr := (.node 15 (.ce (.one)) (.node 7 (.ce (.int .i64)) (.node 4 (.ce (.int .i64)) (.node 1 (.ce (.int .i64)) (.node 0 (.agg [.any, .any, .any, .any, .any]) .nil .nil) .nil) (.node 6 (.ce (.int .i64)) (.node 5 (.ce (.int .i64)) .nil .nil) .nil)) (.node 11 (.ce (.bool)) (.node 10 (.ce (.int .i64)) (.node 9 (.ce (.one)) .nil .nil) .nil) (.node 13 (.ce (.int .i64)) (.node 12 (.ce (.int .i64)) .nil .nil) .nil))) (.node 24 (.ce (.one)) (.node 20 (.ce (.int .i64)) (.node 19 (.ce (.int .i64)) (.node 16 (.ce (.int .i64)) .nil .nil) .nil) (.node 22 (.ce (.int .i64)) (.node 21 (.ce (.bool)) .nil .nil) .nil)) (.node 29 (.ce (.int .i64)) (.node 28 (.ce (.int .i64)) (.node 25 (.ce (.int .i64)) .nil .nil) .nil) (.node 30 (.ce (.int .i64)) .nil .nil))))

noncomputable def D_ref_Bits_k1 (pg : Prg) (x1 : Int) (x5 : Int) (x6 : Int) (vc0_0 : PV) (vc0_1 : PV) (vc0_2 : PV) (vc0_3 : PV) (vc0_4 : PV) (gh : List GObj) : Option (IExit × St) := some (.normal, ⟨[(1, (.int .i64 x1)), (2, (.ptr false 0 0)), (5, (.int .i64 x5)), (6, (.int .i64 (IntKind.i64.wrap (x6 + 1))))], [[vc0_0, vc0_1, vc0_2, vc0_3, vc0_4]], gh⟩)

theorem D_ref_Bits_k1_ok {pg : Prg} {gh : List GObj} {x1 : Int} {x5 : Int} {x6 : Int} {vc0_0 : PV} {vc0_1 : PV} {vc0_2 : PV} {vc0_3 : PV} {vc0_4 : PV} {e : IExit} {s : St} (h : D_ref_Bits_k1 pg x1 x5 x6 vc0_0 vc0_1 vc0_2 vc0_3 vc0_4 gh = some (e, s)) : runL pg f_ref_Bits_k1 ⟨[(1, (.int .i64 x1)), (2, (.ptr false 0 0)), (5, (.int .i64 x5)), (6, (.int .i64 x6))], [[vc0_0, vc0_1, vc0_2, vc0_3, vc0_4]], gh⟩ = some (e, s) :=
  runX_ok an_ref_Bits (Eq.trans (by kernel_rfl) h)

noncomputable def D_ref_Bits_b1 (pg : Prg) (x1 : Int) (x5 : Int) (x6 : Int) (vc0_0 : PV) (vc0_1 : PV) (vc0_2 : PV) (vc0_3 : PV) (vc0_4 : PV) (gh : List GObj) : Option (IExit × St) := isC (degr vc0_0) (lenS (degr (degr vc0_0)) fun n1 => 
  br 11 (decide (x6 < (n1 : Int))) (isC (degr vc0_0) (
  idX 6 none (degr (degr vc0_0)) x6 fun p2 => faX (degr p2) 0 fun p3 => 
  ldX [[vc0_0, vc0_1, vc0_2, vc0_3, vc0_4]] gh false 1 (degr p3) fun v4 => unI .i64 v4 fun n5 => 
  br 21 (n5 == x1) (isC (degr vc0_0) (
  idX 6 none (degr (degr vc0_0)) x6 fun p6 => faX (degr p6) 1 fun p7 => 
  ldX [[vc0_0, vc0_1, vc0_2, vc0_3, vc0_4]] gh false 1 (degr p7) fun v8 => unI .i64 v8 fun n9 => 
  kR (runL pg f_ref_Bits_k1 ⟨[(1, (.int .i64 x1)), (2, (.ptr false 0 0)), (5, (.int .i64 (IntKind.i64.wrap (x5 + n9)))), (6, (.int .i64 x6))], [[vc0_0, vc0_1, vc0_2, vc0_3, vc0_4]], gh⟩) (fun e s => po [1, 2, 5, 6] 1 e s (fun e s => some (e, s))))) (
  kR (runL pg f_ref_Bits_k1 ⟨[(1, (.int .i64 x1)), (2, (.ptr false 0 0)), (5, (.int .i64 x5)), (6, (.int .i64 x6))], [[vc0_0, vc0_1, vc0_2, vc0_3, vc0_4]], gh⟩) (fun e s => po [1, 2, 5, 6] 1 e s (fun e s => some (e, s)))))) (some ((.exit 0), ⟨[(1, (.int .i64 x1)), (2, (.ptr false 0 0)), (5, (.int .i64 x5)), (6, (.int .i64 x6)), (11, (.bool (decide (x6 < (n1 : Int)))))], [[vc0_0, vc0_1, vc0_2, vc0_3, vc0_4]], gh⟩)))

theorem D_ref_Bits_b1_ok {pg : Prg} {gh : List GObj} {x1 : Int} {x5 : Int} {x6 : Int} {vc0_0 : PV} {vc0_1 : PV} {vc0_2 : PV} {vc0_3 : PV} {vc0_4 : PV} {e : IExit} {s : St} (h : D_ref_Bits_b1 pg x1 x5 x6 vc0_0 vc0_1 vc0_2 vc0_3 vc0_4 gh = some (e, s)) : runL pg f_ref_Bits_b1 ⟨[(1, (.int .i64 x1)), (2, (.ptr false 0 0)), (5, (.int .i64 x5)), (6, (.int .i64 x6))], [[vc0_0, vc0_1, vc0_2, vc0_3, vc0_4]], gh⟩ = some (e, s) :=
  runX_ok an_ref_Bits (Eq.trans (by kernel_rfl) h)

noncomputable def D_ref_Bits_k2 (pg : Prg) (x5 : Int) (gh : List GObj) : Option (IExit × St) := some (.ret, ⟨[(4, (.int .i64 x5))], [], gh⟩)

theorem D_ref_Bits_k2_ok {pg : Prg} {gh : List GObj} {x5 : Int} {e : IExit} {s : St} (h : D_ref_Bits_k2 pg x5 gh = some (e, s)) : runL pg f_ref_Bits_k2 ⟨[(5, (.int .i64 x5))], [], gh⟩ = some (e, s) :=
  runX_ok an_ref_Bits (Eq.trans (by kernel_rfl) h)

noncomputable def D_ref_Bits_0 (pg : Prg) (v0_0 : PV) (v0_1 : PV) (v0_2 : PV) (v0_3 : PV) (v0_4 : PV) (x1 : Int) (gh : List GObj) : Option (IExit × St) := onK (degr1 v0_0) (onK (degr1 v0_1) (onK (degr1 v0_2) (onK (degr1 v0_3) (onK (degr1 v0_4) (
  kR (runL pg f_ref_Bits_l1 ⟨[(1, (.int .i64 x1)), (2, (.ptr false 0 0)), (5, (.int .i64 0)), (6, (.int .i64 0))], [[(degr1 v0_0), (degr1 v0_1), (degr1 v0_2), (degr1 v0_3), (degr1 v0_4)]], gh⟩) (fun e s => nx e s (fun e s => some (e, s)) fun s => kR (runL pg f_ref_Bits_k2 s) (fun e s => some (e, s))))))))

theorem D_ref_Bits_0_ok {pg : Prg} {gh : List GObj} {v0_0 : PV} {v0_1 : PV} {v0_2 : PV} {v0_3 : PV} {v0_4 : PV} {x1 : Int} {e : IExit} {s : St} (h : D_ref_Bits_0 pg v0_0 v0_1 v0_2 v0_3 v0_4 x1 gh = some (e, s)) : runL pg f_ref_Bits_0 ⟨[(0, (.agg [v0_0, v0_1, v0_2, v0_3, v0_4])), (1, (.int .i64 x1))], [], gh⟩ = some (e, s) :=
  runX_ok an_ref_Bits (Eq.trans (by kernel_rfl) h)

end Go.Lw
end

/-! What the code of function ref_hangs comes to, piece by piece. Written by program (dprint.py). -/
section
set_option maxRecDepth 10000
set_option maxHeartbeats 4000000
namespace Go.Lw
open Go

def an_ref_hangs : Tr := (.node 35 (.ce (.int .i64)) (.node 18 (.agg [.int .i64, .int .i64, .int .i64, .int .i64, .int .i64, .int .i64]) (.node 9 (.ce (.one)) (.node 4 (.ce (.int .i64)) (.node 2 (.ce (.one)) (.node 0 (.agg [.any, .any, .any, .any, .any]) .nil .nil) (.node 3 (.ce (.one)) .nil .nil)) (.node 7 (.ce (.int .i64)) (.node 6 (.ce (.bool)) .nil .nil) .nil)) (.node 13 (.ce (.int .i64)) (.node 11 (.ce (.bool)) (.node 10 (.ce (.int .i64)) .nil .nil) (.node 12 (.ce (.int .i64)) .nil .nil)) (.node 16 (.ce (.int .i64)) (.node 15 (.ce (.one)) .nil .nil) .nil))) (.node 28 (.ce (.int .i64)) (.node 24 (.ce (.int .i64)) (.node 21 (.ce (.bool)) (.node 20 (.ce (.int .i64)) .nil .nil) (.node 22 (.ce (.bool)) .nil .nil)) (.node 26 (.ce (.bool)) (.node 25 (.ce (.bool)) .nil .nil) .nil)) (.node 31 (.ce (.bool)) (.node 30 (.ce (.bool)) (.node 29 (.ce (.int .i64)) .nil .nil) .nil) (.node 33 (.ce (.one)) (.node 32 (.ce (.bool)) .nil .nil) .nil)))) (.node 53 (.ce (.int .i64)) (.node 44 (.ce (.bool)) (.node 41 (.ce (.int .i64)) (.node 38 (.ce (.bool)) (.node 37 (.ce (.bool)) .nil .nil) (.node 40 (.ce (.int .i64)) .nil .nil)) (.node 43 (.ce (.bool)) (.node 42 (.ce (.bool)) .nil .nil) .nil)) (.node 49 (.ce (.bool)) (.node 47 (.ce (.int .i64)) (.node 45 (.ce (.one)) .nil .nil) .nil) (.node 52 (.ce (.int .i64)) (.node 50 (.ce (.bool)) .nil .nil) .nil))) (.node 62 (.ce (.bool)) (.node 57 (.ce (.one)) (.node 55 (.ce (.bool)) (.node 54 (.ce (.bool)) .nil .nil) (.node 56 (.ce (.bool)) .nil .nil)) (.node 61 (.ce (.bool)) (.node 59 (.ce (.int .i64)) .nil .nil) .nil)) (.node 65 (.ce (.one)) (.node 64 (.ce (.bool)) (.node 63 (.ce (.one)) .nil .nil) .nil) (.node 67 (.ce (.one)) (.node 66 (.ce (.one)) .nil .nil) .nil)))))

noncomputable def D_ref_hangs_k3 (pg : Prg) (v3 : PV) (x4 : Int) (b6 : Bool) (vc0_0 : PV) (vc0_1 : PV) (vc0_2 : PV) (vc0_3 : PV) (vc0_4 : PV) (gh : List GObj) : Option (IExit × St) := 
  apX 1 1 v3 (.sl false 1 [(.bool b6)]) fun l1 => some (.normal, ⟨[(1, (.ptr false 0 0)), (3, (.sl true 1 l1)), (4, (.int .i64 x4))], [[vc0_0, vc0_1, vc0_2, vc0_3, vc0_4]], gh⟩)

theorem D_ref_hangs_k3_ok {pg : Prg} {gh : List GObj} {v3 : PV} {x4 : Int} {b6 : Bool} {vc0_0 : PV} {vc0_1 : PV} {vc0_2 : PV} {vc0_3 : PV} {vc0_4 : PV} {e : IExit} {s : St} (h : D_ref_hangs_k3 pg v3 x4 b6 vc0_0 vc0_1 vc0_2 vc0_3 vc0_4 gh = some (e, s)) : runL pg f_ref_hangs_k3 ⟨[(1, (.ptr false 0 0)), (3, v3), (4, (.int .i64 x4)), (6, (.bool b6))], [[vc0_0, vc0_1, vc0_2, vc0_3, vc0_4]], gh⟩ = some (e, s) :=
  runX_ok an_ref_hangs (Eq.trans (by kernel_rfl) h)

noncomputable def D_ref_hangs_k2 (pg : Prg) (v3 : PV) (x4 : Int) (b6 : Bool) (vc0_0 : PV) (vc0_1 : PV) (vc0_2 : PV) (vc0_3 : PV) (vc0_4 : PV) (xc1_0 : Int) (xc1_1 : Int) (xc1_2 : Int) (xc1_3 : Int) (xc1_4 : Int) (xc1_5 : Int) (gh : List GObj) : Option (IExit × St) := 
  callR gh true (callL pg 26 [(.int .i64 xc1_0)] gh) fun r1 gh2 => unI .i64 r1 fun n3 => stK 2 v3 (
  br 54 (decide (2 < n3)) (
  br 56 b6 (stK 1 v3 (stK 1 v3 (
  kR (runL pg f_ref_hangs_k3 ⟨[(1, (.ptr false 0 0)), (3, v3), (4, (.int .i64 x4)), (6, (.bool true))], [[vc0_0, vc0_1, vc0_2, vc0_3, vc0_4]], gh2⟩) (fun e s => some (e, s))))) (isC (degr v3) (
  idX 1 none (degr (degr v3)) xc1_4 fun p4 => 
  ldX [[vc0_0, vc0_1, vc0_2, vc0_3, vc0_4], [(.int .i64 xc1_0), (.int .i64 xc1_1), (.int .i64 xc1_2), (.int .i64 xc1_3), (.int .i64 xc1_4), (.int .i64 xc1_5)]] gh2 false 1 (degr p4) fun v5 => unB v5 fun b7 => stK 1 v3 (stK 1 v3 (
  kR (runL pg f_ref_hangs_k3 ⟨[(1, (.ptr false 0 0)), (3, v3), (4, (.int .i64 x4)), (6, (.bool b7))], [[vc0_0, vc0_1, vc0_2, vc0_3, vc0_4]], gh2⟩) (fun e s => some (e, s))))))) (stK 1 v3 (
  kR (runL pg f_ref_hangs_k3 ⟨[(1, (.ptr false 0 0)), (3, v3), (4, (.int .i64 x4)), (6, (.bool b6))], [[vc0_0, vc0_1, vc0_2, vc0_3, vc0_4]], gh2⟩) (fun e s => some (e, s)))))

theorem D_ref_hangs_k2_ok {pg : Prg} {gh : List GObj} {v3 : PV} {x4 : Int} {b6 : Bool} {vc0_0 : PV} {vc0_1 : PV} {vc0_2 : PV} {vc0_3 : PV} {vc0_4 : PV} {xc1_0 : Int} {xc1_1 : Int} {xc1_2 : Int} {xc1_3 : Int} {xc1_4 : Int} {xc1_5 : Int} {e : IExit} {s : St} (h : D_ref_hangs_k2 pg v3 x4 b6 vc0_0 vc0_1 vc0_2 vc0_3 vc0_4 xc1_0 xc1_1 xc1_2 xc1_3 xc1_4 xc1_5 gh = some (e, s)) : runL pg f_ref_hangs_k2 ⟨[(1, (.ptr false 0 0)), (3, v3), (4, (.int .i64 x4)), (5, (.ptr false 1 0)), (6, (.bool b6))], [[vc0_0, vc0_1, vc0_2, vc0_3, vc0_4], [(.int .i64 xc1_0), (.int .i64 xc1_1), (.int .i64 xc1_2), (.int .i64 xc1_3), (.int .i64 xc1_4), (.int .i64 xc1_5)]], gh⟩ = some (e, s) :=
  runX_ok an_ref_hangs (Eq.trans (by kernel_rfl) h)

noncomputable def D_ref_hangs_k1 (pg : Prg) (v3 : PV) (x4 : Int) (b6 : Bool) (vc0_0 : PV) (vc0_1 : PV) (vc0_2 : PV) (vc0_3 : PV) (vc0_4 : PV) (xc1_0 : Int) (xc1_1 : Int) (xc1_2 : Int) (xc1_3 : Int) (xc1_4 : Int) (xc1_5 : Int) (gh : List GObj) : Option (IExit × St) := 
  callR gh true (callL pg 26 [(.int .i64 xc1_0)] gh) fun r1 gh2 => unI .i64 r1 fun n3 => stK 2 v3 (
  br 42 (decide (1 < n3)) (
  br 44 b6 (stK 2 v3 (stK 2 v3 (
  kR (runL pg f_ref_hangs_k2 ⟨[(1, (.ptr false 0 0)), (3, v3), (4, (.int .i64 x4)), (5, (.ptr false 1 0)), (6, (.bool true))], [[vc0_0, vc0_1, vc0_2, vc0_3, vc0_4], [(.int .i64 xc1_0), (.int .i64 xc1_1), (.int .i64 xc1_2), (.int .i64 xc1_3), (.int .i64 xc1_4), (.int .i64 xc1_5)]], gh2⟩) (fun e s => some (e, s))))) (isC (degr v3) (
  idX 1 none (degr (degr v3)) xc1_3 fun p4 => 
  ldX [[vc0_0, vc0_1, vc0_2, vc0_3, vc0_4], [(.int .i64 xc1_0), (.int .i64 xc1_1), (.int .i64 xc1_2), (.int .i64 xc1_3), (.int .i64 xc1_4), (.int .i64 xc1_5)]] gh2 false 1 (degr p4) fun v5 => unB v5 fun b7 => stK 2 v3 (stK 2 v3 (
  kR (runL pg f_ref_hangs_k2 ⟨[(1, (.ptr false 0 0)), (3, v3), (4, (.int .i64 x4)), (5, (.ptr false 1 0)), (6, (.bool b7))], [[vc0_0, vc0_1, vc0_2, vc0_3, vc0_4], [(.int .i64 xc1_0), (.int .i64 xc1_1), (.int .i64 xc1_2), (.int .i64 xc1_3), (.int .i64 xc1_4), (.int .i64 xc1_5)]], gh2⟩) (fun e s => some (e, s))))))) (stK 2 v3 (
  kR (runL pg f_ref_hangs_k2 ⟨[(1, (.ptr false 0 0)), (3, v3), (4, (.int .i64 x4)), (5, (.ptr false 1 0)), (6, (.bool b6))], [[vc0_0, vc0_1, vc0_2, vc0_3, vc0_4], [(.int .i64 xc1_0), (.int .i64 xc1_1), (.int .i64 xc1_2), (.int .i64 xc1_3), (.int .i64 xc1_4), (.int .i64 xc1_5)]], gh2⟩) (fun e s => some (e, s)))))

theorem D_ref_hangs_k1_ok {pg : Prg} {gh : List GObj} {v3 : PV} {x4 : Int} {b6 : Bool} {vc0_0 : PV} {vc0_1 : PV} {vc0_2 : PV} {vc0_3 : PV} {vc0_4 : PV} {xc1_0 : Int} {xc1_1 : Int} {xc1_2 : Int} {xc1_3 : Int} {xc1_4 : Int} {xc1_5 : Int} {e : IExit} {s : St} (h : D_ref_hangs_k1 pg v3 x4 b6 vc0_0 vc0_1 vc0_2 vc0_3 vc0_4 xc1_0 xc1_1 xc1_2 xc1_3 xc1_4 xc1_5 gh = some (e, s)) : runL pg f_ref_hangs_k1 ⟨[(1, (.ptr false 0 0)), (3, v3), (4, (.int .i64 x4)), (5, (.ptr false 1 0)), (6, (.bool b6))], [[vc0_0, vc0_1, vc0_2, vc0_3, vc0_4], [(.int .i64 xc1_0), (.int .i64 xc1_1), (.int .i64 xc1_2), (.int .i64 xc1_3), (.int .i64 xc1_4), (.int .i64 xc1_5)]], gh⟩ = some (e, s) :=
  runX_ok an_ref_hangs (Eq.trans (by kernel_rfl) h)

noncomputable def D_ref_hangs_k4 (pg : Prg) (v3 : PV) (x4 : Int) (vc0_0 : PV) (vc0_1 : PV) (vc0_2 : PV) (vc0_3 : PV) (vc0_4 : PV) (gh : List GObj) : Option (IExit × St) := stK 1 v3 (some (.normal, ⟨[(1, (.ptr false 0 0)), (3, v3), (4, (.int .i64 (IntKind.i64.wrap (x4 + 1))))], [[vc0_0, vc0_1, vc0_2, vc0_3, vc0_4]], gh⟩))

theorem D_ref_hangs_k4_ok {pg : Prg} {gh : List GObj} {v3 : PV} {x4 : Int} {vc0_0 : PV} {vc0_1 : PV} {vc0_2 : PV} {vc0_3 : PV} {vc0_4 : PV} {e : IExit} {s : St} (h : D_ref_hangs_k4 pg v3 x4 vc0_0 vc0_1 vc0_2 vc0_3 vc0_4 gh = some (e, s)) : runL pg f_ref_hangs_k4 ⟨[(1, (.ptr false 0 0)), (3, v3), (4, (.int .i64 x4))], [[vc0_0, vc0_1, vc0_2, vc0_3, vc0_4]], gh⟩ = some (e, s) :=
  runX_ok an_ref_hangs (Eq.trans (by kernel_rfl) h)

noncomputable def D_ref_hangs_b1 (pg : Prg) (v3 : PV) (x4 : Int) (vc0_0 : PV) (vc0_1 : PV) (vc0_2 : PV) (vc0_3 : PV) (vc0_4 : PV) (gh : List GObj) : Option (IExit × St) := isC (degr vc0_0) (lenS (degr (degr vc0_0)) fun n1 => stK 1 v3 (
  br 11 (decide (x4 < (n1 : Int))) (isC (degr vc0_0) (
  idX 6 none (degr (degr vc0_0)) x4 fun p2 => 
  ldX [[vc0_0, vc0_1, vc0_2, vc0_3, vc0_4]] gh true 6 (degr p2) fun v4 => unA 6 v4 fun c5 c6 c7 c8 c9 c10 => unI .i64 c5 fun n11 => unI .i64 c6 fun n12 => unI .i64 c7 fun n13 => unI .i64 c8 fun n14 => unI .i64 c9 fun n15 => unI .i64 c10 fun n16 => stK 2 v3 (
  br 22 (n11 == 2) (stK 2 v3 (
  callR gh true (callL pg 26 [(.int .i64 n11)] gh) fun r17 gh18 => unI .i64 r17 fun n19 => stK 2 v3 (
  br 30 (decide (0 < n19)) (stK 2 v3 (stK 2 v3 (
  kR (runL pg f_ref_hangs_k1 ⟨[(1, (.ptr false 0 0)), (3, v3), (4, (.int .i64 x4)), (5, (.ptr false 1 0)), (6, (.bool true))], [[vc0_0, vc0_1, vc0_2, vc0_3, vc0_4], [(.int .i64 n11), (.int .i64 n12), (.int .i64 n13), (.int .i64 n14), (.int .i64 n15), (.int .i64 n16)]], gh18⟩) (fun e s => bk 1 e s (fun e s => nx e s (fun e s => po [1, 3, 4] 1 e s (fun e s => some (e, s))) fun s => kR (runL pg f_ref_hangs_k4 s) (fun e s => po [1, 3, 4] 1 e s (fun e s => some (e, s)))))))) (stK 2 v3 (
  kR (runL pg f_ref_hangs_k1 ⟨[(1, (.ptr false 0 0)), (3, v3), (4, (.int .i64 x4)), (5, (.ptr false 1 0)), (6, (.bool true))], [[vc0_0, vc0_1, vc0_2, vc0_3, vc0_4], [(.int .i64 n11), (.int .i64 n12), (.int .i64 n13), (.int .i64 n14), (.int .i64 n15), (.int .i64 n16)]], gh18⟩) (fun e s => bk 1 e s (fun e s => nx e s (fun e s => po [1, 3, 4] 1 e s (fun e s => some (e, s))) fun s => kR (runL pg f_ref_hangs_k4 s) (fun e s => po [1, 3, 4] 1 e s (fun e s => some (e, s)))))))))) (stK 2 v3 (
  callR gh true (callL pg 26 [(.int .i64 n11)] gh) fun r20 gh21 => unI .i64 r20 fun n22 => stK 2 v3 (
  br 30 (decide (0 < n22)) (
  br 32 (n11 == 3) (stK 2 v3 (stK 2 v3 (
  kR (runL pg f_ref_hangs_k1 ⟨[(1, (.ptr false 0 0)), (3, v3), (4, (.int .i64 x4)), (5, (.ptr false 1 0)), (6, (.bool true))], [[vc0_0, vc0_1, vc0_2, vc0_3, vc0_4], [(.int .i64 n11), (.int .i64 n12), (.int .i64 n13), (.int .i64 n14), (.int .i64 n15), (.int .i64 n16)]], gh21⟩) (fun e s => bk 1 e s (fun e s => nx e s (fun e s => po [1, 3, 4] 1 e s (fun e s => some (e, s))) fun s => kR (runL pg f_ref_hangs_k4 s) (fun e s => po [1, 3, 4] 1 e s (fun e s => some (e, s)))))))) (isC (degr v3) (
  idX 1 none (degr (degr v3)) n13 fun p23 => 
  ldX [[vc0_0, vc0_1, vc0_2, vc0_3, vc0_4], [(.int .i64 n11), (.int .i64 n12), (.int .i64 n13), (.int .i64 n14), (.int .i64 n15), (.int .i64 n16)]] gh21 false 1 (degr p23) fun v24 => unB v24 fun b25 => stK 2 v3 (stK 2 v3 (
  kR (runL pg f_ref_hangs_k1 ⟨[(1, (.ptr false 0 0)), (3, v3), (4, (.int .i64 x4)), (5, (.ptr false 1 0)), (6, (.bool b25))], [[vc0_0, vc0_1, vc0_2, vc0_3, vc0_4], [(.int .i64 n11), (.int .i64 n12), (.int .i64 n13), (.int .i64 n14), (.int .i64 n15), (.int .i64 n16)]], gh21⟩) (fun e s => bk 1 e s (fun e s => nx e s (fun e s => po [1, 3, 4] 1 e s (fun e s => some (e, s))) fun s => kR (runL pg f_ref_hangs_k4 s) (fun e s => po [1, 3, 4] 1 e s (fun e s => some (e, s)))))))))) (stK 2 v3 (
  kR (runL pg f_ref_hangs_k1 ⟨[(1, (.ptr false 0 0)), (3, v3), (4, (.int .i64 x4)), (5, (.ptr false 1 0)), (6, (.bool (n11 == 3)))], [[vc0_0, vc0_1, vc0_2, vc0_3, vc0_4], [(.int .i64 n11), (.int .i64 n12), (.int .i64 n13), (.int .i64 n14), (.int .i64 n15), (.int .i64 n16)]], gh21⟩) (fun e s => bk 1 e s (fun e s => nx e s (fun e s => po [1, 3, 4] 1 e s (fun e s => some (e, s))) fun s => kR (runL pg f_ref_hangs_k4 s) (fun e s => po [1, 3, 4] 1 e s (fun e s => some (e, s))))))))))))) (some ((.exit 0), ⟨[(1, (.ptr false 0 0)), (3, v3), (4, (.int .i64 x4)), (11, (.bool (decide (x4 < (n1 : Int)))))], [[vc0_0, vc0_1, vc0_2, vc0_3, vc0_4]], gh⟩))))

theorem D_ref_hangs_b1_ok {pg : Prg} {gh : List GObj} {v3 : PV} {x4 : Int} {vc0_0 : PV} {vc0_1 : PV} {vc0_2 : PV} {vc0_3 : PV} {vc0_4 : PV} {e : IExit} {s : St} (h : D_ref_hangs_b1 pg v3 x4 vc0_0 vc0_1 vc0_2 vc0_3 vc0_4 gh = some (e, s)) : runL pg f_ref_hangs_b1 ⟨[(1, (.ptr false 0 0)), (3, v3), (4, (.int .i64 x4))], [[vc0_0, vc0_1, vc0_2, vc0_3, vc0_4]], gh⟩ = some (e, s) :=
  runX_ok an_ref_hangs (Eq.trans (by kernel_rfl) h)

noncomputable def D_ref_hangs_k5 (pg : Prg) (v3 : PV) (gh : List GObj) : Option (IExit × St) := isC (degr v3) (stK 0 (degr v3) (some (.ret, ⟨[(2, (degr v3))], [], gh⟩)))

theorem D_ref_hangs_k5_ok {pg : Prg} {gh : List GObj} {v3 : PV} {e : IExit} {s : St} (h : D_ref_hangs_k5 pg v3 gh = some (e, s)) : runL pg f_ref_hangs_k5 ⟨[(3, v3)], [], gh⟩ = some (e, s) :=
  runX_ok an_ref_hangs (Eq.trans (by kernel_rfl) h)

noncomputable def D_ref_hangs_0 (pg : Prg) (v0_0 : PV) (v0_1 : PV) (v0_2 : PV) (v0_3 : PV) (v0_4 : PV) (gh : List GObj) : Option (IExit × St) := onK (degr1 v0_0) (onK (degr1 v0_1) (onK (degr1 v0_2) (onK (degr1 v0_3) (onK (degr1 v0_4) (
  kR (runL pg f_ref_hangs_l1 ⟨[(1, (.ptr false 0 0)), (3, (.sl true 1 [])), (4, (.int .i64 0))], [[(degr1 v0_0), (degr1 v0_1), (degr1 v0_2), (degr1 v0_3), (degr1 v0_4)]], gh⟩) (fun e s => nx e s (fun e s => some (e, s)) fun s => kR (runL pg f_ref_hangs_k5 s) (fun e s => some (e, s))))))))

theorem D_ref_hangs_0_ok {pg : Prg} {gh : List GObj} {v0_0 : PV} {v0_1 : PV} {v0_2 : PV} {v0_3 : PV} {v0_4 : PV} {e : IExit} {s : St} (h : D_ref_hangs_0 pg v0_0 v0_1 v0_2 v0_3 v0_4 gh = some (e, s)) : runL pg f_ref_hangs_0 ⟨[(0, (.agg [v0_0, v0_1, v0_2, v0_3, v0_4]))], [], gh⟩ = some (e, s) :=
  runX_ok an_ref_hangs (Eq.trans (by kernel_rfl) h)

end Go.Lw
end

/-! What the code of function ref_CheckModel comes to, piece by piece. Written by program (dprint.py). -/
section
set_option maxRecDepth 10000
set_option maxHeartbeats 4000000
namespace Go.Lw
open Go

def an_ref_CheckModel : Tr := (.node 97 (.ce (.one)) (.node 48 (.ce (.int .i64)) (.node 24 (.ce (.int .i64)) (.node 12 (.ce (.int .i64)) (.node 6 (.ce (.int .i64)) (.node 3 (.ce (.int .i64)) (.node 2 (.ce (.int .i64)) (.node 0 (.agg [.any, .any, .any, .any, .any]) .nil .nil) .nil) (.node 5 (.ce (.one)) (.node 4 (.ce (.int .i64)) .nil .nil) .nil)) (.node 10 (.ce (.int .i64)) (.node 8 (.ce (.int .i64)) (.node 7 (.ce (.one)) .nil .nil) .nil) (.node 11 (.ce (.one)) .nil .nil))) (.node 18 (.ce (.one)) (.node 15 (.ce (.int .i64)) (.node 14 (.ce (.one)) (.node 13 (.ce (.int .i64)) .nil .nil) .nil) (.node 16 (.ce (.int .i64)) .nil .nil)) (.node 21 (.ce (.bool)) (.node 20 (.ce (.bool)) (.node 19 (.ce (.int .i64)) .nil .nil) .nil) (.node 23 (.ce (.one)) .nil .nil)))) (.node 37 (.ce (.bool)) (.node 31 (.ce (.bool)) (.node 27 (.ce (.bool)) (.node 26 (.ce (.bool)) (.node 25 (.ce (.bool)) .nil .nil) .nil) (.node 30 (.ce (.int .i64)) (.node 29 (.ce (.one)) .nil .nil) .nil)) (.node 35 (.ce (.one)) (.node 33 (.ce (.int .i64)) (.node 32 (.ce (.bool)) .nil .nil) .nil) (.node 36 (.ce (.int .i64)) .nil .nil))) (.node 43 (.ce (.int .i64)) (.node 41 (.ce (.one)) (.node 39 (.ce (.int .i64)) (.node 38 (.ce (.int .i64)) .nil .nil) .nil) (.node 42 (.ce (.int .i64)) .nil .nil)) (.node 46 (.ce (.int .i64)) (.node 45 (.ce (.bool)) (.node 44 (.ce (.int .i64)) .nil .nil) .nil) (.node 47 (.agg [.any, .any, .any, .any, .any]) .nil .nil))))) (.node 71 (.ce (.int .i64)) (.node 59 (.ce (.int .i64)) (.node 54 (.ce (.bool)) (.node 51 (.agg [.any, .any, .any, .any, .any]) (.node 50 (.ce (.bool)) (.node 49 (.ce (.bool)) .nil .nil) .nil) (.node 53 (.ce (.bool)) (.node 52 (.ce (.int .i64)) .nil .nil) .nil)) (.node 57 (.ce (.int .i64)) (.node 56 (.ce (.one)) (.node 55 (.agg [.any, .any, .any, .any, .any]) .nil .nil) .nil) (.node 58 (.ce (.bool)) .nil .nil))) (.node 66 (.ce (.one)) (.node 63 (.ce (.int .i64)) (.node 62 (.ce (.one)) (.node 60 (.ce (.int .i64)) .nil .nil) .nil) (.node 64 (.ce (.bool)) .nil .nil)) (.node 69 (.ce (.int .i64)) (.node 68 (.ce (.one)) (.node 67 (.ce (.int .i64)) .nil .nil) .nil) (.node 70 (.ce (.bool)) .nil .nil)))) (.node 84 (.ce (.bool)) (.node 78 (.ce (.int .i64)) (.node 74 (.ce (.int .i64)) (.node 73 (.ce (.one)) (.node 72 (.ce (.int .i64)) .nil .nil) .nil) (.node 76 (.agg [.int .i64, .int .i64]) .nil .nil)) (.node 82 (.ce (.int .i64)) (.node 81 (.ce (.int .i64)) (.node 80 (.ce (.one)) .nil .nil) .nil) (.node 83 (.ce (.bool)) .nil .nil))) (.node 91 (.ce (.int .i64)) (.node 89 (.ce (.one)) (.node 87 (.ce (.int .i64)) (.node 85 (.ce (.bool)) .nil .nil) .nil) (.node 90 (.ce (.int .i64)) .nil .nil)) (.node 94 (.ce (.bool)) (.node 93 (.ce (.bool)) (.node 92 (.ce (.bool)) .nil .nil) .nil) (.node 95 (.ce (.bool)) .nil .nil)))))) (.node 155 (.ce (.one)) (.node 131 (.ce (.int .i64)) (.node 119 (.ce (.bool)) (.node 108 (.ce (.int .i64)) (.node 103 (.ce (.bool)) (.node 102 (.ce (.int .i64)) (.node 99 (.ce (.int .i64)) .nil .nil) .nil) (.node 106 (.ce (.one)) (.node 104 (.ce (.bool)) .nil .nil) .nil)) (.node 115 (.ce (.int .i64)) (.node 113 (.ce (.one)) (.node 111 (.ce (.int .i64)) .nil .nil) .nil) (.node 118 (.ce (.int .i64)) .nil .nil))) (.node 125 (.ce (.int .i64)) (.node 122 (.ce (.bool)) (.node 121 (.ce (.bool)) (.node 120 (.ce (.int .i64)) .nil .nil) .nil) (.node 123 (.ce (.one)) .nil .nil)) (.node 129 (.ce (.int .i64)) (.node 128 (.ce (.bool)) (.node 127 (.ce (.bool)) .nil .nil) .nil) (.node 130 (.ce (.bool)) .nil .nil)))) (.node 143 (.ce (.int .i64)) (.node 138 (.ce (.one)) (.node 135 (.ce (.int .i64)) (.node 134 (.ce (.one)) (.node 132 (.ce (.int .i64)) .nil .nil) .nil) (.node 136 (.ce (.bool)) .nil .nil)) (.node 141 (.ce (.int .i64)) (.node 140 (.ce (.one)) (.node 139 (.ce (.int .i64)) .nil .nil) .nil) (.node 142 (.ce (.bool)) .nil .nil))) (.node 148 (.ce (.int .i64)) (.node 146 (.ce (.int .i64)) (.node 145 (.ce (.int .i64)) (.node 144 (.ce (.int .i64)) .nil .nil) .nil) (.node 147 (.ce (.bool)) .nil .nil)) (.node 151 (.ce (.int .i64)) (.node 150 (.ce (.one)) (.node 149 (.ce (.int .i64)) .nil .nil) .nil) (.node 154 (.ce (.int .i64)) .nil .nil))))) (.node 181 (.ce (.one)) (.node 170 (.ce (.one)) (.node 164 (.agg [.any, .any, .any, .any, .any]) (.node 160 (.ce (.bool)) (.node 159 (.ce (.int .i64)) (.node 156 (.ce (.int .i64)) .nil .nil) .nil) (.node 163 (.ce (.int .i64)) (.node 162 (.ce (.one)) .nil .nil) .nil)) (.node 167 (.ce (.bool)) (.node 166 (.ce (.int .i64)) (.node 165 (.ce (.one)) .nil .nil) .nil) (.node 168 (.ce (.one)) .nil .nil))) (.node 176 (.ce (.one)) (.node 174 (.ce (.one)) (.node 173 (.ce (.one)) (.node 171 (.ce (.one)) .nil .nil) .nil) (.node 175 (.ce (.int .i64)) .nil .nil)) (.node 179 (.ce (.int .i64)) (.node 178 (.ce (.bool)) (.node 177 (.ce (.int .i64)) .nil .nil) .nil) (.node 180 (.ce (.int .i64)) .nil .nil)))) (.node 193 (.ce (.int .i64)) (.node 188 (.ce (.int .i64)) (.node 186 (.ce (.one)) (.node 184 (.ce (.int .i64)) (.node 182 (.ce (.int .i64)) .nil .nil) .nil) (.node 187 (.ce (.int .i64)) .nil .nil)) (.node 191 (.ce (.int .i64)) (.node 190 (.ce (.bool)) (.node 189 (.ce (.bool)) .nil .nil) .nil) (.node 192 (.ce (.one)) .nil .nil))) (.node 199 (.ce (.one)) (.node 196 (.ce (.int .i64)) (.node 195 (.ce (.int .i64)) (.node 194 (.ce (.bool)) .nil .nil) .nil) (.node 198 (.ce (.one)) .nil .nil)) (.node 205 (.ce (.int .i64)) (.node 202 (.ce (.int .i64)) (.node 200 (.ce (.int .i64)) .nil .nil) .nil) (.node 206 (.ce (.bool)) .nil .nil)))))))

noncomputable def D_ref_CheckModel_b1 (pg : Prg) (x3 : Int) (vc0_0 : PV) (vc0_1 : PV) (vc0_2 : PV) (vc0_3 : PV) (vc0_4 : PV) (gh : List GObj) : Option (IExit × St) := isC (degr vc0_0) (lenS (degr (degr vc0_0)) fun n1 => 
  br 37 (decide (x3 < (n1 : Int))) (isC (degr vc0_0) (arK (degr (degr vc0_0)) (
  callR gh true (callL pg 72 [(degr (degr vc0_0)), (.int .i64 x3)] gh) fun r2 gh3 => unI .i64 r2 fun n4 => 
  br 45 (n4 != 0) (some (.ret, ⟨[(2, (.int .i64 n4))], [], gh3⟩)) (some (.normal, ⟨[(1, (.ptr false 0 0)), (3, (.int .i64 (IntKind.i64.wrap (x3 + 1))))], [[vc0_0, vc0_1, vc0_2, vc0_3, vc0_4]], gh3⟩))))) (some ((.exit 0), ⟨[(1, (.ptr false 0 0)), (3, (.int .i64 x3)), (37, (.bool (decide (x3 < (n1 : Int)))))], [[vc0_0, vc0_1, vc0_2, vc0_3, vc0_4]], gh⟩)))

theorem D_ref_CheckModel_b1_ok {pg : Prg} {gh : List GObj} {x3 : Int} {vc0_0 : PV} {vc0_1 : PV} {vc0_2 : PV} {vc0_3 : PV} {vc0_4 : PV} {e : IExit} {s : St} (h : D_ref_CheckModel_b1 pg x3 vc0_0 vc0_1 vc0_2 vc0_3 vc0_4 gh = some (e, s)) : runL pg f_ref_CheckModel_b1 ⟨[(1, (.ptr false 0 0)), (3, (.int .i64 x3))], [[vc0_0, vc0_1, vc0_2, vc0_3, vc0_4]], gh⟩ = some (e, s) :=
  runX_ok an_ref_CheckModel (Eq.trans (by kernel_rfl) h)

noncomputable def D_ref_CheckModel_b3 (pg : Prg) (v5 : PV) (x6 : Int) (v7 : PV) (x8 : Int) (vc0_0 : PV) (vc0_1 : PV) (vc0_2 : PV) (vc0_3 : PV) (vc0_4 : PV) (gh : List GObj) : Option (IExit × St) := isC (degr v7) (lenS (degr (degr v7)) fun n1 => stK 1 v5 (stK 1 v7 (
  br 70 (decide (x8 < (n1 : Int))) (isC (degr v7) (
  idX 2 none (degr (degr v7)) x8 fun p2 => 
  ldX [[vc0_0, vc0_1, vc0_2, vc0_3, vc0_4]] gh true 2 (degr p2) fun v3 => unA 2 v3 fun c4 c5 => unI .i64 c4 fun n6 => unI .i64 c5 fun n7 => stK 2 v5 (stK 2 v7 (isC (degr vc0_0) (lenS (degr (degr vc0_0)) fun n8 => 
  callR gh true (callL pg 50 [(.int .i64 n6), (.int .i64 0), (.int .i64 (IntKind.i64.wrap ((n8 : Int) - 1)))] gh) fun r9 gh10 => unB r9 fun b11 => 
  br 85 (!b11) (stK 2 v5 (stK 2 v7 (some (.ret, ⟨[(2, (.int .i64 5))], [], gh10⟩)))) (isC (degr vc0_0) (lenS (degr (degr vc0_0)) fun n12 => 
  callR gh10 true (callL pg 50 [(.int .i64 n7), (.int .i64 0), (.int .i64 (IntKind.i64.wrap ((n12 : Int) - 1)))] gh10) fun r13 gh14 => unB r13 fun b15 => 
  br 95 (!b15) (stK 2 v5 (stK 2 v7 (some (.ret, ⟨[(2, (.int .i64 5))], [], gh14⟩)))) (isC (degr vc0_0) (
  idX 6 none (degr (degr vc0_0)) n6 fun p16 => faX (degr p16) 0 fun p17 => 
  ldX [[vc0_0, vc0_1, vc0_2, vc0_3, vc0_4], [(.int .i64 n6), (.int .i64 n7)]] gh14 false 1 (degr p17) fun v18 => unI .i64 v18 fun n19 => stK 2 v5 (stK 2 v7 (
  br 104 (n19 != 3) (some (.ret, ⟨[(2, (.int .i64 5))], [], gh14⟩)) (isC (degr vc0_0) (
  idX 6 none (degr (degr vc0_0)) n6 fun p20 => faX (degr p20) 1 fun p21 => 
  ldX [[vc0_0, vc0_1, vc0_2, vc0_3, vc0_4], [(.int .i64 n6), (.int .i64 n7)]] gh14 false 1 (degr p21) fun v22 => unI .i64 v22 fun n23 => isC (degr vc0_0) (
  idX 6 none (degr (degr vc0_0)) n7 fun p24 => faX (degr p24) 1 fun p25 => 
  ldX [[vc0_0, vc0_1, vc0_2, vc0_3, vc0_4], [(.int .i64 n6), (.int .i64 n7)]] gh14 false 1 (degr p25) fun v26 => unI .i64 v26 fun n27 => stK 2 v5 (stK 2 v7 (
  br 119 (n23 != n27) (some (.ret, ⟨[(2, (.int .i64 1))], [], gh14⟩)) (
  br 122 (x6 == 0) (isC (degr v5) (
  idX 1 none (degr (degr v5)) n7 fun p28 => 
  ldX [[vc0_0, vc0_1, vc0_2, vc0_3, vc0_4], [(.int .i64 n6), (.int .i64 n7)]] gh14 false 1 (degr p28) fun v29 => unB v29 fun b30 => stK 1 v5 (stK 1 v7 (
  br 128 b30 (some (.ret, ⟨[(2, (.int .i64 4))], [], gh14⟩)) (stK 1 v5 (stK 1 v7 (stK 1 v5 (stK 1 v7 (some (.normal, ⟨[(1, (.ptr false 0 0)), (5, v5), (6, (.int .i64 x6)), (7, v7), (8, (.int .i64 (IntKind.i64.wrap (x8 + 1))))], [[vc0_0, vc0_1, vc0_2, vc0_3, vc0_4]], gh14⟩)))))))))) (stK 1 v5 (stK 1 v7 (stK 1 v5 (stK 1 v7 (stK 1 v5 (stK 1 v7 (some (.normal, ⟨[(1, (.ptr false 0 0)), (5, v5), (6, (.int .i64 x6)), (7, v7), (8, (.int .i64 (IntKind.i64.wrap (x8 + 1))))], [[vc0_0, vc0_1, vc0_2, vc0_3, vc0_4]], gh14⟩))))))))))))))))))))))))) (some ((.exit 4), ⟨[(1, (.ptr false 0 0)), (5, v5), (6, (.int .i64 x6)), (7, v7), (8, (.int .i64 x8)), (70, (.bool (decide (x8 < (n1 : Int)))))], [[vc0_0, vc0_1, vc0_2, vc0_3, vc0_4]], gh⟩)))))

theorem D_ref_CheckModel_b3_ok {pg : Prg} {gh : List GObj} {v5 : PV} {x6 : Int} {v7 : PV} {x8 : Int} {vc0_0 : PV} {vc0_1 : PV} {vc0_2 : PV} {vc0_3 : PV} {vc0_4 : PV} {e : IExit} {s : St} (h : D_ref_CheckModel_b3 pg v5 x6 v7 x8 vc0_0 vc0_1 vc0_2 vc0_3 vc0_4 gh = some (e, s)) : runL pg f_ref_CheckModel_b3 ⟨[(1, (.ptr false 0 0)), (5, v5), (6, (.int .i64 x6)), (7, v7), (8, (.int .i64 x8))], [[vc0_0, vc0_1, vc0_2, vc0_3, vc0_4]], gh⟩ = some (e, s) :=
  runX_ok an_ref_CheckModel (Eq.trans (by kernel_rfl) h)

noncomputable def D_ref_CheckModel_k2 (pg : Prg) (v5 : PV) (x6 : Int) (v7 : PV) (vc0_0 : PV) (vc0_1 : PV) (vc0_2 : PV) (vc0_3 : PV) (vc0_4 : PV) (gh : List GObj) : Option (IExit × St) := stK 1 v5 (stK 1 v7 (
  kR (runL pg f_ref_CheckModel_l3 ⟨[(1, (.ptr false 0 0)), (5, v5), (6, (.int .i64 x6)), (7, v7), (8, (.int .i64 0))], [[vc0_0, vc0_1, vc0_2, vc0_3, vc0_4]], gh⟩) (fun e s => some (e, s))))

theorem D_ref_CheckModel_k2_ok {pg : Prg} {gh : List GObj} {v5 : PV} {x6 : Int} {v7 : PV} {vc0_0 : PV} {vc0_1 : PV} {vc0_2 : PV} {vc0_3 : PV} {vc0_4 : PV} {e : IExit} {s : St} (h : D_ref_CheckModel_k2 pg v5 x6 v7 vc0_0 vc0_1 vc0_2 vc0_3 vc0_4 gh = some (e, s)) : runL pg f_ref_CheckModel_k2 ⟨[(1, (.ptr false 0 0)), (5, v5), (6, (.int .i64 x6)), (7, v7)], [[vc0_0, vc0_1, vc0_2, vc0_3, vc0_4]], gh⟩ = some (e, s) :=
  runX_ok an_ref_CheckModel (Eq.trans (by kernel_rfl) h)

noncomputable def D_ref_CheckModel_k3 (pg : Prg) (v5 : PV) (x6 : Int) (vc0_0 : PV) (vc0_1 : PV) (vc0_2 : PV) (vc0_3 : PV) (vc0_4 : PV) (gh : List GObj) : Option (IExit × St) := stK 1 v5 (some (.normal, ⟨[(1, (.ptr false 0 0)), (5, v5), (6, (.int .i64 (IntKind.i64.wrap (x6 + 1))))], [[vc0_0, vc0_1, vc0_2, vc0_3, vc0_4]], gh⟩))

theorem D_ref_CheckModel_k3_ok {pg : Prg} {gh : List GObj} {v5 : PV} {x6 : Int} {vc0_0 : PV} {vc0_1 : PV} {vc0_2 : PV} {vc0_3 : PV} {vc0_4 : PV} {e : IExit} {s : St} (h : D_ref_CheckModel_k3 pg v5 x6 vc0_0 vc0_1 vc0_2 vc0_3 vc0_4 gh = some (e, s)) : runL pg f_ref_CheckModel_k3 ⟨[(1, (.ptr false 0 0)), (5, v5), (6, (.int .i64 x6))], [[vc0_0, vc0_1, vc0_2, vc0_3, vc0_4]], gh⟩ = some (e, s) :=
  runX_ok an_ref_CheckModel (Eq.trans (by kernel_rfl) h)

noncomputable def D_ref_CheckModel_b2 (pg : Prg) (v5 : PV) (x6 : Int) (vc0_0 : PV) (vc0_1 : PV) (vc0_2 : PV) (vc0_3 : PV) (vc0_4 : PV) (gh : List GObj) : Option (IExit × St) := stK 1 v5 (
  br 58 (decide (x6 < 2)) (isC (degr vc0_1) (stK 1 v5 (stK 1 (degr vc0_1) (stK 1 v5 (stK 1 (degr vc0_1) (
  br 64 (x6 == 1) (isC (degr vc0_2) (stK 1 v5 (stK 1 (degr vc0_2) (stK 1 v5 (stK 1 (degr vc0_2) (
  kR (runL pg f_ref_CheckModel_k2 ⟨[(1, (.ptr false 0 0)), (5, v5), (6, (.int .i64 x6)), (7, (degr vc0_2))], [[vc0_0, vc0_1, vc0_2, vc0_3, vc0_4]], gh⟩) (fun e s => bk 3 e s (fun e s => nx e s (fun e s => po [1, 5, 6] 1 e s (fun e s => some (e, s))) fun s => kR (runL pg f_ref_CheckModel_k3 s) (fun e s => po [1, 5, 6] 1 e s (fun e s => some (e, s))))))))))) (stK 1 v5 (stK 1 (degr vc0_1) (
  kR (runL pg f_ref_CheckModel_k2 ⟨[(1, (.ptr false 0 0)), (5, v5), (6, (.int .i64 x6)), (7, (degr vc0_1))], [[vc0_0, vc0_1, vc0_2, vc0_3, vc0_4]], gh⟩) (fun e s => bk 3 e s (fun e s => nx e s (fun e s => po [1, 5, 6] 1 e s (fun e s => some (e, s))) fun s => kR (runL pg f_ref_CheckModel_k3 s) (fun e s => po [1, 5, 6] 1 e s (fun e s => some (e, s)))))))))))))) (some ((.exit 2), ⟨[(1, (.ptr false 0 0)), (5, v5), (6, (.int .i64 x6)), (58, (.bool (decide (x6 < 2))))], [[vc0_0, vc0_1, vc0_2, vc0_3, vc0_4]], gh⟩)))

theorem D_ref_CheckModel_b2_ok {pg : Prg} {gh : List GObj} {v5 : PV} {x6 : Int} {vc0_0 : PV} {vc0_1 : PV} {vc0_2 : PV} {vc0_3 : PV} {vc0_4 : PV} {e : IExit} {s : St} (h : D_ref_CheckModel_b2 pg v5 x6 vc0_0 vc0_1 vc0_2 vc0_3 vc0_4 gh = some (e, s)) : runL pg f_ref_CheckModel_b2 ⟨[(1, (.ptr false 0 0)), (5, v5), (6, (.int .i64 x6))], [[vc0_0, vc0_1, vc0_2, vc0_3, vc0_4]], gh⟩ = some (e, s) :=
  runX_ok an_ref_CheckModel (Eq.trans (by kernel_rfl) h)

noncomputable def D_ref_CheckModel_b6 (pg : Prg) (x10 : Int) (v11 : PV) (x12 : Int) (x13 : Int) (vc0_0 : PV) (vc0_1 : PV) (vc0_2 : PV) (vc0_3 : PV) (vc0_4 : PV) (gh : List GObj) : Option (IExit × St) := stK 1 v11 (
  br 147 (decide (x13 < x12)) (isC (degr v11) (
  idX 2 none (degr (degr v11)) x12 fun p1 => faX (degr p1) 0 fun p2 => 
  ldX [[vc0_0, vc0_1, vc0_2, vc0_3, vc0_4]] gh false 1 (degr p2) fun v3 => unI .i64 v3 fun n4 => isC (degr v11) (
  idX 2 none (degr (degr v11)) x13 fun p5 => faX (degr p5) 0 fun p6 => 
  ldX [[vc0_0, vc0_1, vc0_2, vc0_3, vc0_4]] gh false 1 (degr p6) fun v7 => unI .i64 v7 fun n8 => stK 1 v11 (
  br 160 (n4 == n8) (some (.ret, ⟨[(2, (.int .i64 6))], [], gh⟩)) (stK 1 v11 (stK 1 v11 (some (.normal, ⟨[(1, (.ptr false 0 0)), (10, (.int .i64 x10)), (11, v11), (12, (.int .i64 x12)), (13, (.int .i64 (IntKind.i64.wrap (x13 + 1))))], [[vc0_0, vc0_1, vc0_2, vc0_3, vc0_4]], gh⟩)))))))) (some ((.exit 10), ⟨[(1, (.ptr false 0 0)), (10, (.int .i64 x10)), (11, v11), (12, (.int .i64 x12)), (13, (.int .i64 x13)), (147, (.bool (decide (x13 < x12))))], [[vc0_0, vc0_1, vc0_2, vc0_3, vc0_4]], gh⟩)))

theorem D_ref_CheckModel_b6_ok {pg : Prg} {gh : List GObj} {x10 : Int} {v11 : PV} {x12 : Int} {x13 : Int} {vc0_0 : PV} {vc0_1 : PV} {vc0_2 : PV} {vc0_3 : PV} {vc0_4 : PV} {e : IExit} {s : St} (h : D_ref_CheckModel_b6 pg x10 v11 x12 x13 vc0_0 vc0_1 vc0_2 vc0_3 vc0_4 gh = some (e, s)) : runL pg f_ref_CheckModel_b6 ⟨[(1, (.ptr false 0 0)), (10, (.int .i64 x10)), (11, v11), (12, (.int .i64 x12)), (13, (.int .i64 x13))], [[vc0_0, vc0_1, vc0_2, vc0_3, vc0_4]], gh⟩ = some (e, s) :=
  runX_ok an_ref_CheckModel (Eq.trans (by kernel_rfl) h)

noncomputable def D_ref_CheckModel_k6 (pg : Prg) (x10 : Int) (v11 : PV) (x12 : Int) (vc0_0 : PV) (vc0_1 : PV) (vc0_2 : PV) (vc0_3 : PV) (vc0_4 : PV) (gh : List GObj) : Option (IExit × St) := stK 1 v11 (some (.normal, ⟨[(1, (.ptr false 0 0)), (10, (.int .i64 x10)), (11, v11), (12, (.int .i64 (IntKind.i64.wrap (x12 + 1))))], [[vc0_0, vc0_1, vc0_2, vc0_3, vc0_4]], gh⟩))

theorem D_ref_CheckModel_k6_ok {pg : Prg} {gh : List GObj} {x10 : Int} {v11 : PV} {x12 : Int} {vc0_0 : PV} {vc0_1 : PV} {vc0_2 : PV} {vc0_3 : PV} {vc0_4 : PV} {e : IExit} {s : St} (h : D_ref_CheckModel_k6 pg x10 v11 x12 vc0_0 vc0_1 vc0_2 vc0_3 vc0_4 gh = some (e, s)) : runL pg f_ref_CheckModel_k6 ⟨[(1, (.ptr false 0 0)), (10, (.int .i64 x10)), (11, v11), (12, (.int .i64 x12))], [[vc0_0, vc0_1, vc0_2, vc0_3, vc0_4]], gh⟩ = some (e, s) :=
  runX_ok an_ref_CheckModel (Eq.trans (by kernel_rfl) h)

noncomputable def D_ref_CheckModel_b5 (pg : Prg) (x10 : Int) (v11 : PV) (x12 : Int) (vc0_0 : PV) (vc0_1 : PV) (vc0_2 : PV) (vc0_3 : PV) (vc0_4 : PV) (gh : List GObj) : Option (IExit × St) := isC (degr v11) (lenS (degr (degr v11)) fun n1 => stK 1 v11 (
  br 142 (decide (x12 < (n1 : Int))) (stK 1 v11 (
  kR (runL pg f_ref_CheckModel_l6 ⟨[(1, (.ptr false 0 0)), (10, (.int .i64 x10)), (11, v11), (12, (.int .i64 x12)), (13, (.int .i64 0))], [[vc0_0, vc0_1, vc0_2, vc0_3, vc0_4]], gh⟩) (fun e s => bk 9 e s (fun e s => nx e s (fun e s => po [1, 10, 11, 12] 1 e s (fun e s => some (e, s))) fun s => kR (runL pg f_ref_CheckModel_k6 s) (fun e s => po [1, 10, 11, 12] 1 e s (fun e s => some (e, s))))))) (some ((.exit 8), ⟨[(1, (.ptr false 0 0)), (10, (.int .i64 x10)), (11, v11), (12, (.int .i64 x12)), (142, (.bool (decide (x12 < (n1 : Int)))))], [[vc0_0, vc0_1, vc0_2, vc0_3, vc0_4]], gh⟩))))

theorem D_ref_CheckModel_b5_ok {pg : Prg} {gh : List GObj} {x10 : Int} {v11 : PV} {x12 : Int} {vc0_0 : PV} {vc0_1 : PV} {vc0_2 : PV} {vc0_3 : PV} {vc0_4 : PV} {e : IExit} {s : St} (h : D_ref_CheckModel_b5 pg x10 v11 x12 vc0_0 vc0_1 vc0_2 vc0_3 vc0_4 gh = some (e, s)) : runL pg f_ref_CheckModel_b5 ⟨[(1, (.ptr false 0 0)), (10, (.int .i64 x10)), (11, v11), (12, (.int .i64 x12))], [[vc0_0, vc0_1, vc0_2, vc0_3, vc0_4]], gh⟩ = some (e, s) :=
  runX_ok an_ref_CheckModel (Eq.trans (by kernel_rfl) h)

noncomputable def D_ref_CheckModel_k5 (pg : Prg) (x10 : Int) (v11 : PV) (vc0_0 : PV) (vc0_1 : PV) (vc0_2 : PV) (vc0_3 : PV) (vc0_4 : PV) (gh : List GObj) : Option (IExit × St) := stK 1 v11 (
  kR (runL pg f_ref_CheckModel_l5 ⟨[(1, (.ptr false 0 0)), (10, (.int .i64 x10)), (11, v11), (12, (.int .i64 0))], [[vc0_0, vc0_1, vc0_2, vc0_3, vc0_4]], gh⟩) (fun e s => some (e, s)))

theorem D_ref_CheckModel_k5_ok {pg : Prg} {gh : List GObj} {x10 : Int} {v11 : PV} {vc0_0 : PV} {vc0_1 : PV} {vc0_2 : PV} {vc0_3 : PV} {vc0_4 : PV} {e : IExit} {s : St} (h : D_ref_CheckModel_k5 pg x10 v11 vc0_0 vc0_1 vc0_2 vc0_3 vc0_4 gh = some (e, s)) : runL pg f_ref_CheckModel_k5 ⟨[(1, (.ptr false 0 0)), (10, (.int .i64 x10)), (11, v11)], [[vc0_0, vc0_1, vc0_2, vc0_3, vc0_4]], gh⟩ = some (e, s) :=
  runX_ok an_ref_CheckModel (Eq.trans (by kernel_rfl) h)

noncomputable def D_ref_CheckModel_k7 (pg : Prg) (x10 : Int) (vc0_0 : PV) (vc0_1 : PV) (vc0_2 : PV) (vc0_3 : PV) (vc0_4 : PV) (gh : List GObj) : Option (IExit × St) := some (.normal, ⟨[(1, (.ptr false 0 0)), (10, (.int .i64 (IntKind.i64.wrap (x10 + 1))))], [[vc0_0, vc0_1, vc0_2, vc0_3, vc0_4]], gh⟩)

theorem D_ref_CheckModel_k7_ok {pg : Prg} {gh : List GObj} {x10 : Int} {vc0_0 : PV} {vc0_1 : PV} {vc0_2 : PV} {vc0_3 : PV} {vc0_4 : PV} {e : IExit} {s : St} (h : D_ref_CheckModel_k7 pg x10 vc0_0 vc0_1 vc0_2 vc0_3 vc0_4 gh = some (e, s)) : runL pg f_ref_CheckModel_k7 ⟨[(1, (.ptr false 0 0)), (10, (.int .i64 x10))], [[vc0_0, vc0_1, vc0_2, vc0_3, vc0_4]], gh⟩ = some (e, s) :=
  runX_ok an_ref_CheckModel (Eq.trans (by kernel_rfl) h)

noncomputable def D_ref_CheckModel_b4 (pg : Prg) (x10 : Int) (vc0_0 : PV) (vc0_1 : PV) (vc0_2 : PV) (vc0_3 : PV) (vc0_4 : PV) (gh : List GObj) : Option (IExit × St) := 
  br 130 (decide (x10 < 2)) (isC (degr vc0_1) (stK 1 (degr vc0_1) (stK 1 (degr vc0_1) (
  br 136 (x10 == 1) (isC (degr vc0_2) (stK 1 (degr vc0_2) (stK 1 (degr vc0_2) (
  kR (runL pg f_ref_CheckModel_k5 ⟨[(1, (.ptr false 0 0)), (10, (.int .i64 x10)), (11, (degr vc0_2))], [[vc0_0, vc0_1, vc0_2, vc0_3, vc0_4]], gh⟩) (fun e s => bk 7 e s (fun e s => nx e s (fun e s => po [1, 10] 1 e s (fun e s => some (e, s))) fun s => kR (runL pg f_ref_CheckModel_k7 s) (fun e s => po [1, 10] 1 e s (fun e s => some (e, s))))))))) (stK 1 (degr vc0_1) (
  kR (runL pg f_ref_CheckModel_k5 ⟨[(1, (.ptr false 0 0)), (10, (.int .i64 x10)), (11, (degr vc0_1))], [[vc0_0, vc0_1, vc0_2, vc0_3, vc0_4]], gh⟩) (fun e s => bk 7 e s (fun e s => nx e s (fun e s => po [1, 10] 1 e s (fun e s => some (e, s))) fun s => kR (runL pg f_ref_CheckModel_k7 s) (fun e s => po [1, 10] 1 e s (fun e s => some (e, s))))))))))) (some ((.exit 6), ⟨[(1, (.ptr false 0 0)), (10, (.int .i64 x10)), (130, (.bool (decide (x10 < 2))))], [[vc0_0, vc0_1, vc0_2, vc0_3, vc0_4]], gh⟩))

theorem D_ref_CheckModel_b4_ok {pg : Prg} {gh : List GObj} {x10 : Int} {vc0_0 : PV} {vc0_1 : PV} {vc0_2 : PV} {vc0_3 : PV} {vc0_4 : PV} {e : IExit} {s : St} (h : D_ref_CheckModel_b4 pg x10 vc0_0 vc0_1 vc0_2 vc0_3 vc0_4 gh = some (e, s)) : runL pg f_ref_CheckModel_b4 ⟨[(1, (.ptr false 0 0)), (10, (.int .i64 x10))], [[vc0_0, vc0_1, vc0_2, vc0_3, vc0_4]], gh⟩ = some (e, s) :=
  runX_ok an_ref_CheckModel (Eq.trans (by kernel_rfl) h)

noncomputable def D_ref_CheckModel_b7 (pg : Prg) (v14 : PV) (x15 : Int) (vc0_0 : PV) (vc0_1 : PV) (vc0_2 : PV) (vc0_3 : PV) (vc0_4 : PV) (gh : List GObj) : Option (IExit × St) := isC (degr v14) (lenS (degr (degr v14)) fun n1 => stK 1 v14 (
  br 178 (decide (x15 < (n1 : Int))) (isC (degr v14) (
  idX 1 none (degr (degr v14)) x15 fun p2 => 
  ldX [[vc0_0, vc0_1, vc0_2, vc0_3, vc0_4]] gh false 1 (degr p2) fun v3 => unI .i64 v3 fun n4 => isC (degr vc0_0) (lenS (degr (degr vc0_0)) fun n5 => 
  callR gh true (callL pg 50 [(.int .i64 n4), (.int .i64 0), (.int .i64 (IntKind.i64.wrap ((n5 : Int) - 1)))] gh) fun r6 gh7 => unB r6 fun b8 => stK 1 v14 (
  br 190 (!b8) (some (.ret, ⟨[(2, (.int .i64 5))], [], gh7⟩)) (stK 1 v14 (stK 1 v14 (some (.normal, ⟨[(1, (.ptr false 0 0)), (14, v14), (15, (.int .i64 (IntKind.i64.wrap (x15 + 1))))], [[vc0_0, vc0_1, vc0_2, vc0_3, vc0_4]], gh7⟩)))))))) (some ((.exit 12), ⟨[(1, (.ptr false 0 0)), (14, v14), (15, (.int .i64 x15)), (178, (.bool (decide (x15 < (n1 : Int)))))], [[vc0_0, vc0_1, vc0_2, vc0_3, vc0_4]], gh⟩))))

theorem D_ref_CheckModel_b7_ok {pg : Prg} {gh : List GObj} {v14 : PV} {x15 : Int} {vc0_0 : PV} {vc0_1 : PV} {vc0_2 : PV} {vc0_3 : PV} {vc0_4 : PV} {e : IExit} {s : St} (h : D_ref_CheckModel_b7 pg v14 x15 vc0_0 vc0_1 vc0_2 vc0_3 vc0_4 gh = some (e, s)) : runL pg f_ref_CheckModel_b7 ⟨[(1, (.ptr false 0 0)), (14, v14), (15, (.int .i64 x15))], [[vc0_0, vc0_1, vc0_2, vc0_3, vc0_4]], gh⟩ = some (e, s) :=
  runX_ok an_ref_CheckModel (Eq.trans (by kernel_rfl) h)

noncomputable def D_ref_CheckModel_b8 (pg : Prg) (v14 : PV) (x16 : Int) (vc0_0 : PV) (vc0_1 : PV) (vc0_2 : PV) (vc0_3 : PV) (vc0_4 : PV) (gh : List GObj) : Option (IExit × St) := isC (degr v14) (lenS (degr (degr v14)) fun n1 => stK 1 v14 (
  br 194 (decide (x16 < (n1 : Int))) (isC (degr vc0_0) (isC (degr v14) (
  idX 1 none (degr (degr v14)) x16 fun p2 => 
  ldX [[vc0_0, vc0_1, vc0_2, vc0_3, vc0_4]] gh false 1 (degr p2) fun v3 => unI .i64 v3 fun n4 => 
  idX 6 none (degr (degr vc0_0)) n4 fun p5 => faX (degr p5) 1 fun p6 => 
  ldX [[vc0_0, vc0_1, vc0_2, vc0_3, vc0_4]] gh false 1 (degr p6) fun v7 => unI .i64 v7 fun n8 => stK 1 v14 (
  br 206 (n8 != 1) (some (.ret, ⟨[(2, (.int .i64 1))], [], gh⟩)) (stK 1 v14 (stK 1 v14 (some (.normal, ⟨[(1, (.ptr false 0 0)), (14, v14), (16, (.int .i64 (IntKind.i64.wrap (x16 + 1))))], [[vc0_0, vc0_1, vc0_2, vc0_3, vc0_4]], gh⟩)))))))) (some ((.exit 14), ⟨[(1, (.ptr false 0 0)), (14, v14), (16, (.int .i64 x16)), (194, (.bool (decide (x16 < (n1 : Int)))))], [[vc0_0, vc0_1, vc0_2, vc0_3, vc0_4]], gh⟩))))

theorem D_ref_CheckModel_b8_ok {pg : Prg} {gh : List GObj} {v14 : PV} {x16 : Int} {vc0_0 : PV} {vc0_1 : PV} {vc0_2 : PV} {vc0_3 : PV} {vc0_4 : PV} {e : IExit} {s : St} (h : D_ref_CheckModel_b8 pg v14 x16 vc0_0 vc0_1 vc0_2 vc0_3 vc0_4 gh = some (e, s)) : runL pg f_ref_CheckModel_b8 ⟨[(1, (.ptr false 0 0)), (14, v14), (16, (.int .i64 x16))], [[vc0_0, vc0_1, vc0_2, vc0_3, vc0_4]], gh⟩ = some (e, s) :=
  runX_ok an_ref_CheckModel (Eq.trans (by kernel_rfl) h)

noncomputable def D_ref_CheckModel_k10 (pg : Prg)  (gh : List GObj) : Option (IExit × St) := some (.ret, ⟨[(2, (.int .i64 0))], [], gh⟩)

theorem D_ref_CheckModel_k10_ok {pg : Prg} {gh : List GObj}  {e : IExit} {s : St} (h : D_ref_CheckModel_k10 pg  gh = some (e, s)) : runL pg f_ref_CheckModel_k10 ⟨[], [], gh⟩ = some (e, s) :=
  runX_ok an_ref_CheckModel (Eq.trans (by kernel_rfl) h)

noncomputable def D_ref_CheckModel_k9 (pg : Prg) (v14 : PV) (vc0_0 : PV) (vc0_1 : PV) (vc0_2 : PV) (vc0_3 : PV) (vc0_4 : PV) (gh : List GObj) : Option (IExit × St) := stK 1 v14 (
  kR (runL pg f_ref_CheckModel_l8 ⟨[(1, (.ptr false 0 0)), (14, v14), (16, (.int .i64 0))], [[vc0_0, vc0_1, vc0_2, vc0_3, vc0_4]], gh⟩) (fun e s => nx e s (fun e s => some (e, s)) fun s => kR (runL pg f_ref_CheckModel_k10 s) (fun e s => some (e, s))))

theorem D_ref_CheckModel_k9_ok {pg : Prg} {gh : List GObj} {v14 : PV} {vc0_0 : PV} {vc0_1 : PV} {vc0_2 : PV} {vc0_3 : PV} {vc0_4 : PV} {e : IExit} {s : St} (h : D_ref_CheckModel_k9 pg v14 vc0_0 vc0_1 vc0_2 vc0_3 vc0_4 gh = some (e, s)) : runL pg f_ref_CheckModel_k9 ⟨[(1, (.ptr false 0 0)), (14, v14)], [[vc0_0, vc0_1, vc0_2, vc0_3, vc0_4]], gh⟩ = some (e, s) :=
  runX_ok an_ref_CheckModel (Eq.trans (by kernel_rfl) h)

noncomputable def D_ref_CheckModel_k8 (pg : Prg) (vc0_0 : PV) (vc0_1 : PV) (vc0_2 : PV) (vc0_3 : PV) (vc0_4 : PV) (gh : List GObj) : Option (IExit × St) := isC (degr vc0_2) (lenS (degr (degr vc0_2)) fun n1 => onK (degr1 (degr1 vc0_0)) (onK (degr1 (degr1 vc0_1)) (onK (degr1 (degr1 vc0_2)) (onK (degr1 (degr1 vc0_3)) (onK (degr1 (degr1 vc0_4)) (
  callR gh true (callL pg 39 [(.agg [(degr1 (degr1 vc0_0)), (degr1 (degr1 vc0_1)), (degr1 (degr1 vc0_2)), (degr1 (degr1 vc0_3)), (degr1 (degr1 vc0_4))]), (.int .i64 3)] gh) fun r2 gh3 => isC r2 (lenS (degr r2) fun n4 => 
  br 167 ((n1 : Int) != (n4 : Int)) (some (.ret, ⟨[(2, (.int .i64 5))], [], gh3⟩)) (isC (degr vc0_3) (
  apX 1 8 (.sl true 1 []) (degr (degr vc0_3)) fun l5 => isC (degr vc0_4) (
  apX 1 8 (.sl true 1 l5) (degr (degr vc0_4)) fun l6 => 
  kR (runL pg f_ref_CheckModel_l7 ⟨[(1, (.ptr false 0 0)), (14, (.sl true 1 l6)), (15, (.int .i64 0))], [[vc0_0, vc0_1, vc0_2, vc0_3, vc0_4]], gh3⟩) (fun e s => nx e s (fun e s => some (e, s)) fun s => kR (runL pg f_ref_CheckModel_k9 s) (fun e s => some (e, s)))))))))))))

theorem D_ref_CheckModel_k8_ok {pg : Prg} {gh : List GObj} {vc0_0 : PV} {vc0_1 : PV} {vc0_2 : PV} {vc0_3 : PV} {vc0_4 : PV} {e : IExit} {s : St} (h : D_ref_CheckModel_k8 pg vc0_0 vc0_1 vc0_2 vc0_3 vc0_4 gh = some (e, s)) : runL pg f_ref_CheckModel_k8 ⟨[(1, (.ptr false 0 0))], [[vc0_0, vc0_1, vc0_2, vc0_3, vc0_4]], gh⟩ = some (e, s) :=
  runX_ok an_ref_CheckModel (Eq.trans (by kernel_rfl) h)

noncomputable def D_ref_CheckModel_k4 (pg : Prg) (vc0_0 : PV) (vc0_1 : PV) (vc0_2 : PV) (vc0_3 : PV) (vc0_4 : PV) (gh : List GObj) : Option (IExit × St) := 
  kR (runL pg f_ref_CheckModel_l4 ⟨[(1, (.ptr false 0 0)), (10, (.int .i64 0))], [[vc0_0, vc0_1, vc0_2, vc0_3, vc0_4]], gh⟩) (fun e s => nx e s (fun e s => some (e, s)) fun s => kR (runL pg f_ref_CheckModel_k8 s) (fun e s => some (e, s)))

theorem D_ref_CheckModel_k4_ok {pg : Prg} {gh : List GObj} {vc0_0 : PV} {vc0_1 : PV} {vc0_2 : PV} {vc0_3 : PV} {vc0_4 : PV} {e : IExit} {s : St} (h : D_ref_CheckModel_k4 pg vc0_0 vc0_1 vc0_2 vc0_3 vc0_4 gh = some (e, s)) : runL pg f_ref_CheckModel_k4 ⟨[(1, (.ptr false 0 0))], [[vc0_0, vc0_1, vc0_2, vc0_3, vc0_4]], gh⟩ = some (e, s) :=
  runX_ok an_ref_CheckModel (Eq.trans (by kernel_rfl) h)

noncomputable def D_ref_CheckModel_k1 (pg : Prg) (vc0_0 : PV) (vc0_1 : PV) (vc0_2 : PV) (vc0_3 : PV) (vc0_4 : PV) (gh : List GObj) : Option (IExit × St) := onK (degr1 (degr1 vc0_0)) (onK (degr1 (degr1 vc0_1)) (onK (degr1 (degr1 vc0_2)) (onK (degr1 (degr1 vc0_3)) (onK (degr1 (degr1 vc0_4)) (
  callR gh true (callL pg 73 [(.agg [(degr1 (degr1 vc0_0)), (degr1 (degr1 vc0_1)), (degr1 (degr1 vc0_2)), (degr1 (degr1 vc0_3)), (degr1 (degr1 vc0_4))]), (.int .i64 2)] gh) fun r1 gh2 => unI .i64 r1 fun n3 => 
  br 50 (decide (6 < n3)) (some (.ret, ⟨[(2, (.int .i64 2))], [], gh2⟩)) (onK (degr1 (degr1 vc0_0)) (onK (degr1 (degr1 vc0_1)) (onK (degr1 (degr1 vc0_2)) (onK (degr1 (degr1 vc0_3)) (onK (degr1 (degr1 vc0_4)) (
  callR gh2 true (callL pg 73 [(.agg [(degr1 (degr1 vc0_0)), (degr1 (degr1 vc0_1)), (degr1 (degr1 vc0_2)), (degr1 (degr1 vc0_3)), (degr1 (degr1 vc0_4))]), (.int .i64 3)] gh2) fun r4 gh5 => unI .i64 r4 fun n6 => 
  br 54 (decide (10 < n6)) (some (.ret, ⟨[(2, (.int .i64 2))], [], gh5⟩)) (onK (degr1 (degr1 vc0_0)) (onK (degr1 (degr1 vc0_1)) (onK (degr1 (degr1 vc0_2)) (onK (degr1 (degr1 vc0_3)) (onK (degr1 (degr1 vc0_4)) (
  callR gh5 true (callL pg 74 [(.agg [(degr1 (degr1 vc0_0)), (degr1 (degr1 vc0_1)), (degr1 (degr1 vc0_2)), (degr1 (degr1 vc0_3)), (degr1 (degr1 vc0_4))])] gh5) fun r7 gh8 => isC r7 (stK 1 r7 (stK 1 r7 (
  kR (runL pg f_ref_CheckModel_l2 ⟨[(1, (.ptr false 0 0)), (5, r7), (6, (.int .i64 0))], [[vc0_0, vc0_1, vc0_2, vc0_3, vc0_4]], gh8⟩) (fun e s => nx e s (fun e s => some (e, s)) fun s => kR (runL pg f_ref_CheckModel_k4 s) (fun e s => some (e, s)))))))))))))))))))))))

theorem D_ref_CheckModel_k1_ok {pg : Prg} {gh : List GObj} {vc0_0 : PV} {vc0_1 : PV} {vc0_2 : PV} {vc0_3 : PV} {vc0_4 : PV} {e : IExit} {s : St} (h : D_ref_CheckModel_k1 pg vc0_0 vc0_1 vc0_2 vc0_3 vc0_4 gh = some (e, s)) : runL pg f_ref_CheckModel_k1 ⟨[(1, (.ptr false 0 0))], [[vc0_0, vc0_1, vc0_2, vc0_3, vc0_4]], gh⟩ = some (e, s) :=
  runX_ok an_ref_CheckModel (Eq.trans (by kernel_rfl) h)

noncomputable def D_ref_CheckModel_0 (pg : Prg) (v0_0 : PV) (v0_1 : PV) (v0_2 : PV) (v0_3 : PV) (v0_4 : PV) (gh : List GObj) : Option (IExit × St) := onK (degr1 v0_0) (onK (degr1 v0_1) (onK (degr1 v0_2) (onK (degr1 v0_3) (onK (degr1 v0_4) (isC (degr (degr1 v0_0)) (lenS (degr (degr (degr1 v0_0))) fun n1 => 
  br 21 (decide (80 < (n1 : Int))) (some (.ret, ⟨[(2, (.int .i64 2))], [], gh⟩)) (isC (degr (degr1 v0_3)) (lenS (degr (degr (degr1 v0_3))) fun n2 => 
  br 27 (decide (8 < (n2 : Int))) (some (.ret, ⟨[(2, (.int .i64 2))], [], gh⟩)) (isC (degr (degr1 v0_4)) (lenS (degr (degr (degr1 v0_4))) fun n3 => 
  br 32 (decide (8 < (n3 : Int))) (some (.ret, ⟨[(2, (.int .i64 2))], [], gh⟩)) (
  kR (runL pg f_ref_CheckModel_l1 ⟨[(1, (.ptr false 0 0)), (3, (.int .i64 0))], [[(degr1 v0_0), (degr1 v0_1), (degr1 v0_2), (degr1 v0_3), (degr1 v0_4)]], gh⟩) (fun e s => nx e s (fun e s => some (e, s)) fun s => kR (runL pg f_ref_CheckModel_k1 s) (fun e s => some (e, s))))))))))))))

theorem D_ref_CheckModel_0_ok {pg : Prg} {gh : List GObj} {v0_0 : PV} {v0_1 : PV} {v0_2 : PV} {v0_3 : PV} {v0_4 : PV} {e : IExit} {s : St} (h : D_ref_CheckModel_0 pg v0_0 v0_1 v0_2 v0_3 v0_4 gh = some (e, s)) : runL pg f_ref_CheckModel_0 ⟨[(0, (.agg [v0_0, v0_1, v0_2, v0_3, v0_4]))], [], gh⟩ = some (e, s) :=
  runX_ok an_ref_CheckModel (Eq.trans (by kernel_rfl) h)

end Go.Lw
end

/-! Models: inputs and states (the program), and the document's nodes of a kind, bits, and what hangs. -/
section
namespace Go.Lw
open Go
@[simp] theorem ble11 : Nat.ble 1 1 = true := rfl

section
variable {m : Md} {gh : List GObj}

/-- What Inputs and States answer. -/
def ofL (m : Md) (kind : Int) : List Int := if checkE m = 0 then kindL m.nodes kind else []

theorem of_eq {kind : Int} (h1 : Sz m.inits.length) (h2 : Sz m.nexts.length) : callL pg 71 [modelV m, I kind] gh = some (.tup [LI (ofL m kind), I (checkE m)], gh) := by
  have hc := MCheck_eq (m := m) (gh := gh) h1 h2
  unfold ofL
  by_cases h0 : checkE m = 0
  · have hl : m.nodes.length ≤ 1000 := by
      unfold checkE at h0
      split at h0
      · contradiction
      · omega
    have ho := Ofk_eq (m := m) (gh := gh) (kind := kind) hl
    have hn := noGs_ints (kindL m.nodes kind)
    rw [modelV_def] at *
    rw [if_pos h0]
    generalize checkE m = r at *
    subst h0
    simp only [LI] at *
    generalize (kindL m.nodes kind).map I = K at *
    refine callL_fn (fn := f_model_of) (s := ⟨[(4, .sl false 1 K), (5, I 0)], [], gh⟩) rfl rfl (D_model_of_0_ok ?h1) ?r1
    case h1 => simp [D_model_of_0, hc, ho]
    case r1 => simp [finish, results, f_model_of, resOfs, resOf, resOk, hn]
  · rw [modelV_def] at *
    rw [if_neg h0]
    generalize checkE m = r at *
    refine callL_fn (fn := f_model_of) (s := ⟨[(4, .sl true 1 []), (5, I r)], [], gh⟩) rfl rfl (D_model_of_0_ok ?h2) ?r2
    case h2 => simp [D_model_of_0, hc, h0]
    case r2 => simp [finish, results, f_model_of, resOfs, resOf, resOk]

theorem States_eq (h1 : Sz m.inits.length) (h2 : Sz m.nexts.length) : callL pg 35 [modelV m] gh = some (.tup [LI (ofL m 3), I (checkE m)], gh) := by
  have hc := of_eq (m := m) (gh := gh) (kind := 3) h1 h2
  have hn := noGs_ints (ofL m 3)
  rw [modelV_def] at *
  simp only [LI] at *
  generalize (ofL m 3).map I = K at *
  refine callL_fn (fn := f_model_States) (s := ⟨[(2, .sl false 1 K), (3, I (checkE m))], [], gh⟩) rfl rfl (D_model_States_0_ok ?h1) ?r1
  case h1 => simp [D_model_States_0, hc]
  case r1 => simp [finish, results, f_model_States, resOfs, resOf, resOk, hn]

/-! ### the document -/
theorem RNodes_loop {kind : Int} (hl : m.nodes.length * 8 ≤ 140737488355328) : ∀ k i (acc : List Int), i + k = m.nodes.length → acc.length ≤ i →
    runL pg f_ref_Nodes_l1 ⟨[(1, I kind), (2, .ptr false 0 0), (5, .sl true 1 (acc.map I)), (6, I (i : Int))], [[LN m.nodes, LP m.inits, LP m.nexts, LI m.bads, LI m.holds]], gh⟩ =
      some (.normal, ⟨[(5, .sl true 1 ((acc ++ kindF kind i (m.nodes.drop i)).map I))], [], gh⟩)
  | 0, i, acc, h, _ => by
    rw [List.drop_eq_nil_of_le (by omega)]
    have hlt : ¬ i < m.nodes.length := by omega
    refine (lp_exit (s1 := ?s1) (D_ref_Nodes_b1_ok ?h1)).trans ?r1
    case h1 => simp [D_ref_Nodes_b1, hlt]; rfl
    case r1 => simp [keep, kindF, stays]
  | k + 1, i, acc, h, ha => by
    have hlt : i < m.nodes.length := by omega
    have hltD : decide (i < m.nodes.length) = true := decide_eq_true hlt
    have hltI : (i : Int) < (m.nodes.length : Int) := by omega
    have e2 : IntKind.i64.wrap ((i : Int) + 1) = ((i + 1 : Nat) : Int) := wrap_nat (by simp only [Sz]; omega)
    have hx : (m.nodes.map nodeV)[i]? = some (nodeV m.nodes[i]) := by simp [List.getElem?_eq_getElem hlt]
    rw [nodeV_def m.nodes[i]] at hx
    have hmx : (acc.length + 1) * 8 ≤ maxBytes := by
      have : maxBytes = 140737488355328 := rfl
      omega
    rw [List.drop_eq_getElem_cons hlt, kindF]
    generalize m.nodes[i] = x at *
    have hk1 : ∀ acc' : List PV, runL pg f_ref_Nodes_k1 ⟨[(1, I kind), (2, .ptr false 0 0), (5, .sl true 1 acc'), (6, I (i : Int))], [[LN m.nodes, LP m.inits, LP m.nexts, LI m.bads, LI m.holds]], gh⟩ = some (.normal, ⟨[(1, I kind), (2, .ptr false 0 0), (5, .sl true 1 acc'), (6, I ((i + 1 : Nat) : Int))], [[LN m.nodes, LP m.inits, LP m.nexts, LI m.bads, LI m.holds]], gh⟩) := fun acc' => by
      refine D_ref_Nodes_k1_ok ?_
      simp [D_ref_Nodes_k1, e2]
    by_cases hk : x.k = kind
    · rw [if_pos hk]
      have e : acc ++ (i : Int) :: kindF kind (i + 1) (m.nodes.drop (i + 1)) = (acc ++ [(i : Int)]) ++ kindF kind (i + 1) (m.nodes.drop (i + 1)) := by simp
      rw [e]
      have hk1 := hk1 (acc.map I ++ [I (i : Int)])
      refine lp_next (s1 := ⟨[(1, I kind), (2, .ptr false 0 0), (5, .sl true 1 ((acc ++ [(i : Int)]).map I)), (6, I ((i + 1 : Nat) : Int))], [[LN m.nodes, LP m.inits, LP m.nexts, LI m.bads, LI m.holds]], gh⟩) (D_ref_Nodes_b1_ok ?_) (RNodes_loop hl k (i + 1) _ (by omega) (by simp; omega))
      have hal : (acc.map I).length = acc.length := by simp
      simp only [List.map_append, List.map_cons, List.map_nil] at hk1 ⊢
      generalize acc.map I = A at *
      simp [D_ref_Nodes_b1, hltD, hx, hk, hal, hmx, hk1, -List.getElem?_map]
    · rw [if_neg hk]
      have hk1 := hk1 (acc.map I)
      refine lp_next (s1 := ⟨[(1, I kind), (2, .ptr false 0 0), (5, .sl true 1 (acc.map I)), (6, I ((i + 1 : Nat) : Int))], [[LN m.nodes, LP m.inits, LP m.nexts, LI m.bads, LI m.holds]], gh⟩) (D_ref_Nodes_b1_ok ?_) (RNodes_loop hl k (i + 1) _ (by omega) (by omega))
      generalize acc.map I = A at *
      simp [D_ref_Nodes_b1, hltD, hx, hk, hk1, -List.getElem?_map]

theorem RNodes_eq {kind : Int} (hl : m.nodes.length * 8 ≤ 140737488355328) : callL pg 39 [modelV m, I kind] gh = some (LI (kindL m.nodes kind), gh) := by
  have h := RNodes_loop (gh := gh) (kind := kind) hl m.nodes.length 0 [] (by omega) (by simp)
  rw [List.drop_zero, List.nil_append] at h
  simp only [List.map_nil, Int.natCast_zero] at h
  have hn := noGs_ints (kindF kind 0 m.nodes)
  have hk := D_ref_Nodes_k2_ok (pg := pg) (gh := gh) (v5 := .sl true 1 ((kindF kind 0 m.nodes).map I)) (e := .ret) (s := ⟨[(4, .sl false 1 ((kindF kind 0 m.nodes).map I))], [], gh⟩) (by simp [D_ref_Nodes_k2])
  unfold kindL
  simp only [LI] at *
  generalize (kindF kind 0 m.nodes).map I = K at *
  rw [modelV_def]
  refine callL_fn (fn := f_ref_Nodes) (s := ⟨[(4, .sl false 1 K)], [], gh⟩) rfl rfl (D_ref_Nodes_0_ok ?h1) ?r1
  case h1 => simp [D_ref_Nodes_0, h, hk]
  case r1 => simp [finish, results, f_ref_Nodes, resOfs, resOf, resOk, hn]

theorem RBits_loop {kind : Int} (hl : m.nodes.length * 8 ≤ 140737488355328) : ∀ k i s, i + k = m.nodes.length →
    runL pg f_ref_Bits_l1 ⟨[(1, I kind), (2, .ptr false 0 0), (5, I s), (6, I (i : Int))], [[LN m.nodes, LP m.inits, LP m.nexts, LI m.bads, LI m.holds]], gh⟩ =
      some (.normal, ⟨[(5, I (((m.nodes.drop i).filter fun x => decide (x.k = kind)).foldl addW s))], [], gh⟩)
  | 0, i, s, h => by
    rw [List.drop_eq_nil_of_le (by omega)]
    have hlt : ¬ i < m.nodes.length := by omega
    refine (lp_exit (s1 := ?s1) (D_ref_Bits_b1_ok ?h1)).trans ?r1
    case h1 => simp [D_ref_Bits_b1, hlt]; rfl
    case r1 => simp [keep, stays]
  | k + 1, i, s, h => by
    have hlt : i < m.nodes.length := by omega
    have hltD : decide (i < m.nodes.length) = true := decide_eq_true hlt
    have hltI : (i : Int) < (m.nodes.length : Int) := by omega
    have e2 : IntKind.i64.wrap ((i : Int) + 1) = ((i + 1 : Nat) : Int) := wrap_nat (by simp only [Sz]; omega)
    have hx : (m.nodes.map nodeV)[i]? = some (nodeV m.nodes[i]) := by simp [List.getElem?_eq_getElem hlt]
    rw [nodeV_def m.nodes[i]] at hx
    rw [List.drop_eq_getElem_cons hlt, List.filter_cons]
    generalize m.nodes[i] = x at *
    have hk1 : ∀ s', runL pg f_ref_Bits_k1 ⟨[(1, I kind), (2, .ptr false 0 0), (5, I s'), (6, I (i : Int))], [[LN m.nodes, LP m.inits, LP m.nexts, LI m.bads, LI m.holds]], gh⟩ = some (.normal, ⟨[(1, I kind), (2, .ptr false 0 0), (5, I s'), (6, I ((i + 1 : Nat) : Int))], [[LN m.nodes, LP m.inits, LP m.nexts, LI m.bads, LI m.holds]], gh⟩) := fun s' => by
      refine D_ref_Bits_k1_ok ?_
      simp [D_ref_Bits_k1, e2]
    by_cases hk : x.k = kind
    · rw [if_pos (by simpa using hk), List.foldl_cons]
      have hk1 := hk1 (IntKind.i64.wrap (s + x.w))
      refine lp_next (s1 := ⟨[(1, I kind), (2, .ptr false 0 0), (5, I (addW s x)), (6, I ((i + 1 : Nat) : Int))], [[LN m.nodes, LP m.inits, LP m.nexts, LI m.bads, LI m.holds]], gh⟩) (D_ref_Bits_b1_ok ?_) (RBits_loop hl k (i + 1) _ (by omega))
      unfold addW
      simp [D_ref_Bits_b1, hltD, hx, hk, hk1, -List.getElem?_map]
    · rw [if_neg (by simpa using hk)]
      have hk1 := hk1 s
      refine lp_next (s1 := ⟨[(1, I kind), (2, .ptr false 0 0), (5, I s), (6, I ((i + 1 : Nat) : Int))], [[LN m.nodes, LP m.inits, LP m.nexts, LI m.bads, LI m.holds]], gh⟩) (D_ref_Bits_b1_ok ?_) (RBits_loop hl k (i + 1) _ (by omega))
      simp [D_ref_Bits_b1, hltD, hx, hk, hk1, -List.getElem?_map]

theorem RBits_eq {kind : Int} (hl : m.nodes.length * 8 ≤ 140737488355328) : callL pg 73 [modelV m, I kind] gh = some (I (bitsK m.nodes kind), gh) := by
  have h := RBits_loop (gh := gh) (kind := kind) hl m.nodes.length 0 0 (by omega)
  rw [List.drop_zero] at h
  simp only [Int.natCast_zero] at h
  unfold bitsK
  generalize (m.nodes.filter fun x => decide (x.k = kind)).foldl addW 0 = r at *
  have hk := D_ref_Bits_k2_ok (pg := pg) (gh := gh) (x5 := r) rfl
  rw [modelV_def]
  refine callL_fn (fn := f_ref_Bits) (s := ⟨[(4, I r)], [], gh⟩) rfl rfl (D_ref_Bits_0_ok ?h1) ?r1
  case h1 => simp [D_ref_Bits_0, h, hk]
  case r1 => simp [finish, results, f_ref_Bits, resOfs, resOf, resOk]

end
end Go.Lw
end

/-! Models: what hangs (the document). -/
section
namespace Go.Lw
open Go
section
variable {m : Md} {gh : List GObj}

def stepB (on : Prop) [Decidable on] (f : List Bool) (b : Bool) (a : Int) : Bool := if on then b || f.getD a.toNat false else b

theorem hangB_steps (f : List Bool) (x : Nd) : hangB f x = stepB (2 < takesOf x.k) f (stepB (1 < takesOf x.k) f (stepB (0 < takesOf x.k) f (decide (x.k = 2 ∨ x.k = 3)) x.a) x.b) x.c := by
  unfold hangB argsL stepB
  rcases takes_cases x.k with h | h | h | h <;> rw [h] <;> simp [Bool.or_assoc]

abbrev mcells (m : Md) : List PV := [LN m.nodes, LP m.inits, LP m.nexts, LI m.bads, LI m.holds]

theorem hangs_k3 {f : List Bool} {i : Int} {b : Bool} (hf : f.length ≤ 1000) :
    runL pg f_ref_hangs_k3 ⟨[(1, .ptr false 0 0), (3, .sl true 1 (f.map B)), (4, I i), (6, B b)], [mcells m], gh⟩ = some (.normal, ⟨[(1, .ptr false 0 0), (3, .sl true 1 ((f ++ [b]).map B)), (4, I i)], [mcells m], gh⟩) := by
  have hmx : f.length + 1 ≤ maxBytes := by
    have : maxBytes = 140737488355328 := rfl
    omega
  refine D_ref_hangs_k3_ok ?_
  simp [D_ref_hangs_k3, hmx]

theorem hangs_k2 {f : List Bool} {i : Int} {b : Bool} {x : Nd} (hf : f.length ≤ 1000) (hc : 2 < takesOf x.k → 0 ≤ x.c ∧ x.c.toNat < f.length) :
    runL pg f_ref_hangs_k2 ⟨[(1, .ptr false 0 0), (3, .sl true 1 (f.map B)), (4, I i), (5, .ptr false 1 0), (6, B b)], [mcells m, [I x.k, I x.w, I x.a, I x.b, I x.c, I x.n]], gh⟩ =
      some (.normal, ⟨[(1, .ptr false 0 0), (3, .sl true 1 ((f ++ [stepB (2 < takesOf x.k) f b x.c]).map B)), (4, I i)], [mcells m], gh⟩) := by
  have ht := RTakes_eq x.k gh
  have k3 := fun b' => hangs_k3 (m := m) (gh := gh) (i := i) (b := b') hf
  unfold stepB
  refine D_ref_hangs_k2_ok ?_
  by_cases h : 2 < takesOf x.k
  · obtain ⟨h0, h1⟩ := hc h
    have hfr := fr_idx h1
    rw [if_pos h]
    generalize f.getD x.c.toNat false = c at *
    generalize takesOf x.k = t at *
    cases b with
    | true =>
      have k3 := k3 true
      simp only [mcells] at *
      simp [D_ref_hangs_k2, ht, h, k3]
    | false =>
      have k3 := k3 c
      simp only [mcells, Bool.false_or] at *
      generalize (f ++ [c]).map B = F2 at *
      generalize f.map B = F at *
      simp [D_ref_hangs_k2, ht, h, h0, hfr, k3]
  · rw [if_neg h]
    have k3 := k3 b
    generalize takesOf x.k = t at *
    simp only [mcells] at *
    generalize (f ++ [b]).map B = F2 at *
    generalize f.map B = F at *
    simp [D_ref_hangs_k2, ht, h, k3]

theorem hangs_k1 {f : List Bool} {i : Int} {b : Bool} {x : Nd} (hf : f.length ≤ 1000) (hb : 1 < takesOf x.k → 0 ≤ x.b ∧ x.b.toNat < f.length) (hc : 2 < takesOf x.k → 0 ≤ x.c ∧ x.c.toNat < f.length) :
    runL pg f_ref_hangs_k1 ⟨[(1, .ptr false 0 0), (3, .sl true 1 (f.map B)), (4, I i), (5, .ptr false 1 0), (6, B b)], [mcells m, [I x.k, I x.w, I x.a, I x.b, I x.c, I x.n]], gh⟩ =
      some (.normal, ⟨[(1, .ptr false 0 0), (3, .sl true 1 ((f ++ [stepB (2 < takesOf x.k) f (stepB (1 < takesOf x.k) f b x.b) x.c]).map B)), (4, I i)], [mcells m], gh⟩) := by
  have ht := RTakes_eq x.k gh
  have k2 := fun b' => hangs_k2 (m := m) (gh := gh) (i := i) (b := b') hf hc
  have e : ∀ c, stepB (1 < takesOf x.k) f b c = if 1 < takesOf x.k then b || f.getD c.toNat false else b := fun _ => rfl
  rw [e]
  refine D_ref_hangs_k1_ok ?_
  by_cases h : 1 < takesOf x.k
  · obtain ⟨h0, h1⟩ := hb h
    have hfr := fr_idx h1
    rw [if_pos h]
    generalize f.getD x.b.toNat false = c at *
    cases b with
    | true =>
      have k2 := k2 true
      rw [Bool.true_or]
      generalize stepB (2 < takesOf x.k) f true x.c = r at *
      simp only [mcells] at *
      generalize takesOf x.k = t at *
      generalize (f ++ [r]).map B = F2 at *
      generalize f.map B = F at *
      simp [D_ref_hangs_k1, ht, h, k2]
    | false =>
      have k2 := k2 c
      rw [Bool.false_or]
      simp only [mcells] at *
      generalize stepB (2 < takesOf x.k) f c x.c = r at *
      generalize takesOf x.k = t at *
      generalize (f ++ [r]).map B = F2 at *
      generalize f.map B = F at *
      simp [D_ref_hangs_k1, ht, h, h0, hfr, k2]
  · rw [if_neg h]
    have k2 := k2 b
    generalize stepB (2 < takesOf x.k) f b x.c = r at *
    generalize takesOf x.k = t at *
    simp only [mcells] at *
    generalize (f ++ [r]).map B = F2 at *
    generalize f.map B = F at *
    simp [D_ref_hangs_k1, ht, h, k2]

theorem hangs_loop (hA : Ahead m.nodes) (hl : m.nodes.length ≤ 1000) : ∀ k i (f : List Bool), i + k = m.nodes.length → f.length = i →
    runL pg f_ref_hangs_l1 ⟨[(1, .ptr false 0 0), (3, .sl true 1 (f.map B)), (4, I (i : Int))], [mcells m], gh⟩ = some (.normal, ⟨[(3, .sl true 1 ((hangF f (m.nodes.drop i)).map B))], [], gh⟩)
  | 0, i, f, h, _ => by
    rw [List.drop_eq_nil_of_le (by omega)]
    have hlt : ¬ i < m.nodes.length := by omega
    refine (lp_exit (s1 := ?s1) (D_ref_hangs_b1_ok ?h1)).trans ?r1
    case h1 => simp [D_ref_hangs_b1, hlt]; rfl
    case r1 => simp [keep, hangF, stays]
  | k + 1, i, f, h, hf => by
    have hlt : i < m.nodes.length := by omega
    have hltD : decide (i < m.nodes.length) = true := decide_eq_true hlt
    have e2 : IntKind.i64.wrap ((i : Int) + 1) = ((i + 1 : Nat) : Int) := by rw [wrap_id (by omega) (by omega)]; omega
    have hx : (m.nodes.map nodeV)[i]? = some (nodeV m.nodes[i]) := by simp [List.getElem?_eq_getElem hlt]
    have hah := hA i _ (List.getElem?_eq_getElem hlt)
    rw [List.drop_eq_getElem_cons hlt, hangF, hangB_steps]
    generalize m.nodes[i] = x at *
    rw [nodeV_def x] at hx
    have ha : 0 < takesOf x.k → 0 ≤ x.a ∧ x.a.toNat < f.length := fun ht => by
      have := hah x.a (by unfold argsL; rcases takes_cases x.k with h | h | h | h <;> rw [h] at ht ⊢ <;> simp at ht ⊢)
      omega
    have hb : 1 < takesOf x.k → 0 ≤ x.b ∧ x.b.toNat < f.length := fun ht => by
      have := hah x.b (by unfold argsL; rcases takes_cases x.k with h | h | h | h <;> rw [h] at ht ⊢ <;> simp at ht ⊢)
      omega
    have hc : 2 < takesOf x.k → 0 ≤ x.c ∧ x.c.toNat < f.length := fun ht => by
      have := hah x.c (by unfold argsL; rcases takes_cases x.k with h | h | h | h <;> rw [h] at ht ⊢ <;> simp at ht ⊢)
      omega
    have k1 := fun b' => hangs_k1 (m := m) (gh := gh) (i := (i : Int)) (b := b') (by omega : f.length ≤ 1000) hb hc
    have k4 : ∀ f' : List PV, runL pg f_ref_hangs_k4 ⟨[(1, .ptr false 0 0), (3, .sl true 1 f'), (4, I (i : Int))], [mcells m], gh⟩ = some (.normal, ⟨[(1, .ptr false 0 0), (3, .sl true 1 f'), (4, I ((i + 1 : Nat) : Int))], [mcells m], gh⟩) := fun f' => by
      refine D_ref_hangs_k4_ok ?_
      simp [D_ref_hangs_k4, e2]
    have ht := RTakes_eq x.k gh
    refine lp_next (D_ref_hangs_b1_ok ?_) (hangs_loop hA hl k (i + 1) _ (by omega) (by simp; omega))
    have e0 : ∀ b, stepB (0 < takesOf x.k) f b x.a = if 0 < takesOf x.k then b || f.getD x.a.toNat false else b := fun _ => rfl
    rw [e0]
    simp only [mcells] at *
    by_cases h2 : x.k = 2
    · have d2 : decide (x.k = 2) = true := decide_eq_true h2
      have hd : decide (x.k = 2 ∨ x.k = 3) = true := decide_eq_true (.inl h2)
      rw [hd]
      have hif : (if 0 < takesOf x.k then true || f.getD x.a.toNat false else true) = true := by split <;> simp
      rw [hif]
      have k1 := k1 true
      generalize stepB (2 < takesOf x.k) f (stepB (1 < takesOf x.k) f true x.b) x.c = r at *
      have k4 := k4 ((f ++ [r]).map B)
      generalize takesOf x.k = t at *
      generalize (f ++ [r]).map B = F2 at *
      generalize f.map B = F at *
      by_cases h0 : 0 < t
      · simp [D_ref_hangs_b1, hltD, hx, d2, ht, h0, k1, k4, -List.getElem?_map]
      · simp [D_ref_hangs_b1, hltD, hx, d2, ht, h0, k1, k4, -List.getElem?_map]
    · have d2 : decide (x.k = 2) = false := decide_eq_false h2
      have hd : decide (x.k = 2 ∨ x.k = 3) = decide (x.k = 3) := by simp [h2]
      rw [hd]
      by_cases h0 : 0 < takesOf x.k
      · rw [if_pos h0]
        obtain ⟨ha0, ha1⟩ := ha h0
        have hfr := fr_idx ha1
        generalize f.getD x.a.toNat false = c at *
        have k1 := k1 (decide (x.k = 3) || c)
        generalize hb3 : decide (x.k = 3) = b3 at *
        generalize stepB (2 < takesOf x.k) f (stepB (1 < takesOf x.k) f (b3 || c) x.b) x.c = r at *
        have k4 := k4 ((f ++ [r]).map B)
        generalize takesOf x.k = t at *
        generalize (f ++ [r]).map B = F2 at *
        generalize f.map B = F at *
        cases b3 with
        | true =>
          rw [Bool.true_or] at k1
          simp [D_ref_hangs_b1, hltD, hx, d2, ht, h0, hb3, k1, k4, -List.getElem?_map]
        | false =>
          rw [Bool.false_or] at k1
          simp [D_ref_hangs_b1, hltD, hx, d2, ht, h0, hb3, ha0, hfr, k1, k4, -List.getElem?_map]
      · rw [if_neg h0]
        have k1 := k1 (decide (x.k = 3))
        generalize hb3 : decide (x.k = 3) = b3 at *
        generalize stepB (2 < takesOf x.k) f (stepB (1 < takesOf x.k) f b3 x.b) x.c = r at *
        have k4 := k4 ((f ++ [r]).map B)
        generalize takesOf x.k = t at *
        generalize (f ++ [r]).map B = F2 at *
        generalize f.map B = F at *
        simp [D_ref_hangs_b1, hltD, hx, d2, ht, h0, hb3, k1, k4, -List.getElem?_map]

theorem hangs_eq (hA : Ahead m.nodes) (hl : m.nodes.length ≤ 1000) : callL pg 74 [modelV m] gh = some (.sl false 1 ((hangF [] m.nodes).map B), gh) := by
  have h := hangs_loop (gh := gh) hA hl m.nodes.length 0 [] (by omega) rfl
  rw [List.drop_zero] at h
  simp only [List.map_nil, Int.natCast_zero, mcells] at h
  have hn : noGs ((hangF [] m.nodes).map B) = true := by
    generalize hangF [] m.nodes = l
    induction l with
    | nil => rfl
    | cons a l ih => simpa using ih
  generalize (hangF [] m.nodes).map B = K at *
  have hk := D_ref_hangs_k5_ok (pg := pg) (gh := gh) (v3 := .sl true 1 K) (e := .ret) (s := ⟨[(2, .sl false 1 K)], [], gh⟩) (by simp [D_ref_hangs_k5])
  rw [modelV_def]
  refine callL_fn (fn := f_ref_hangs) (s := ⟨[(2, .sl false 1 K)], [], gh⟩) rfl rfl (D_ref_hangs_0_ok ?h1) ?r1
  case h1 => simp [D_ref_hangs_0, h, hk]
  case r1 => simp [finish, results, f_ref_hangs, resOfs, resOf, resOk, hn]

end
end Go.Lw
end

/-! Models: the whole check (the document): loops. -/
section
namespace Go.Lw
open Go

/-- Does any name what one ahead of it names? -/
def dupF : List (Int × Int) → List (Int × Int) → Bool
  | _, [] => false
  | pre, p :: l => pre.any (fun q => decide (p.1 = q.1)) || dupF (pre ++ [p]) l

theorem dupF_false : ∀ {pre l : List (Int × Int)}, dupF pre l = false ↔ ((l.map (·.1)).Nodup ∧ ∀ p ∈ l, ∀ q ∈ pre, p.1 ≠ q.1)
  | pre, [] => by simp [dupF]
  | pre, p :: l => by
    rw [dupF, Bool.or_eq_false_iff, dupF_false (pre := pre ++ [p]) (l := l)]
    simp only [List.any_eq_false, List.map_cons, List.nodup_cons, List.mem_cons, List.mem_append, List.not_mem_nil, or_false, decide_eq_true_eq]
    constructor
    · rintro ⟨h1, h2, h3⟩
      refine ⟨⟨fun hm => ?_, h2⟩, ?_⟩
      · obtain ⟨q, hq, he⟩ := List.mem_map.1 hm
        exact h3 q hq p (.inr rfl) he
      · rintro a (rfl | ha) q hq
        · exact h1 q hq
        · exact h3 a ha q (.inl hq)
    · rintro ⟨⟨h1, h2⟩, h3⟩
      refine ⟨fun q hq => h3 p (.inl rfl) q hq, h2, fun a ha q hq => ?_⟩
      rcases hq with hq | rfl
      · exact h3 a (.inr ha) q hq
      · exact fun he => h1 (he ▸ List.mem_map_of_mem ha)

theorem dupF_twice (l : List (Int × Int)) : dupF [] l = decide (twice l) := by
  have h := dupF_false (pre := []) (l := l)
  unfold twice
  cases hd : dupF [] l with
  | false => exact (decide_eq_false fun hn => hn (h.1 hd).1).symm
  | true =>
    have : ¬ dupF [] l = false := by simp [hd]
    rw [h] at this
    exact (decide_eq_true (p := ¬ (l.map (·.1)).Nodup) fun hn => this ⟨hn, by simp⟩).symm

section
variable {m : Md} {gh : List GObj}

theorem RC_l1 (hl : m.nodes.length ≤ 1000) : ∀ k i, i + k = m.nodes.length →
    runL pg f_ref_CheckModel_l1 ⟨[(1, .ptr false 0 0), (3, I (i : Int))], [mcells m], gh⟩ =
      if nodesE m.nodes i (m.nodes.drop i) = 0 then some (.normal, ⟨[(1, .ptr false 0 0)], [mcells m], gh⟩)
      else some (.ret, ⟨[(2, I (nodesE m.nodes i (m.nodes.drop i)))], [], gh⟩)
  | 0, i, h => by
    rw [List.drop_eq_nil_of_le (by omega), nodesE, if_pos rfl]
    have hlt : ¬ i < m.nodes.length := by omega
    refine (lp_exit (s1 := ?s1) (D_ref_CheckModel_b1_ok ?h1)).trans ?r1
    case h1 => simp [D_ref_CheckModel_b1, hlt]; rfl
    case r1 => simp [keep, stays]
  | k + 1, i, h => by
    have hlt : i < m.nodes.length := by omega
    have hltD : decide (i < m.nodes.length) = true := decide_eq_true hlt
    have e2 : IntKind.i64.wrap ((i : Int) + 1) = ((i + 1 : Nat) : Int) := by rw [wrap_id (by omega) (by omega)]; omega
    have hn := CheckNode_eq (l := m.nodes) (gh := gh) (idx := i) (List.getElem?_eq_getElem hlt) (by omega)
    rw [List.drop_eq_getElem_cons hlt, nodesE]
    generalize nodeE m.nodes (i : Int) m.nodes[i] = r at *
    by_cases he : r = 0
    · rw [if_pos he]
      refine lp_next (s1 := ⟨[(1, .ptr false 0 0), (3, I ((i + 1 : Nat) : Int))], [mcells m], gh⟩) (D_ref_CheckModel_b1_ok ?_) (RC_l1 hl k (i + 1) (by omega))
      simp [D_ref_CheckModel_b1, hltD, hn, he, e2]
    · rw [if_neg he, if_neg he]
      refine lp_ret (D_ref_CheckModel_b1_ok ?_)
      simp [D_ref_CheckModel_b1, hltD, hn, he]

theorem between_no (hl : m.nodes.length ≤ 1000) (n : Int) : callL pg 50 [I n, I 0, I (IntKind.i64.wrap ((m.nodes.length : Int) - 1))] gh = some (B (decide (isNo m.nodes n)), gh) := by
  have e : IntKind.i64.wrap ((m.nodes.length : Int) - 1) = (m.nodes.length : Int) - 1 := wrap_id (by omega) (by omega)
  rw [e, between_eq]
  have : decide (0 ≤ n ∧ n ≤ (m.nodes.length : Int) - 1) = decide (isNo m.nodes n) := decide_eq_decide.2 ⟨fun h => ⟨h.1, by omega⟩, fun h => ⟨h.1, by have := h.2; have := h.1; omega⟩⟩
  rw [this]

theorem RC_l3 {f : List Bool} {ps : List (Int × Int)} {k : Nat} (hf : f.length = m.nodes.length) (hl : m.nodes.length ≤ 1000) (hs : Sz ps.length) : ∀ n j, j + n = ps.length →
    runL pg f_ref_CheckModel_l3 ⟨[(1, .ptr false 0 0), (5, .sl false 1 (f.map B)), (6, I (k : Int)), (7, LP ps), (8, I (j : Int))], [mcells m], gh⟩ =
      if pairsE m.nodes f (decide (k = 0)) (ps.drop j) = 0 then some (.normal, ⟨[(1, .ptr false 0 0), (5, .sl false 1 (f.map B)), (6, I (k : Int))], [mcells m], gh⟩)
      else some (.ret, ⟨[(2, I (pairsE m.nodes f (decide (k = 0)) (ps.drop j)))], [], gh⟩)
  | 0, j, h => by
    rw [List.drop_eq_nil_of_le (by omega), pairsE, if_pos rfl]
    have hlt : ¬ j < ps.length := by omega
    refine (lp_exit (s1 := ?s1) (D_ref_CheckModel_b3_ok ?h1)).trans ?r1
    case h1 => simp only [D_ref_CheckModel_b3]; simp [hlt]; rfl
    case r1 => simp [keep, stays]
  | n + 1, j, h => by
    have hlt : j < ps.length := by omega
    have hltD : decide (j < ps.length) = true := decide_eq_true hlt
    have hltI : (j : Int) < (ps.length : Int) := by omega
    have e2 : IntKind.i64.wrap ((j : Int) + 1) = ((j + 1 : Nat) : Int) := wrap_nat (by simp only [Sz] at hs ⊢; omega)
    have hx : (ps.map andV)[j]? = some (andV ps[j]) := by simp [List.getElem?_eq_getElem hlt]
    rw [andV_def] at hx
    rw [List.drop_eq_getElem_cons hlt, pairsE]
    generalize ps[j] = p at *
    obtain ⟨a, b⟩ := p
    simp only at hx
    have hk0 : ((k : Int) == 0) = decide (k = 0) := by
      rw [beqI]; exact decide_eq_decide.2 (by omega)
    obtain ⟨ini, hini⟩ : ∃ ini, decide (k = 0) = ini := ⟨_, rfl⟩
    rw [hini] at hk0 ⊢
    have i1 := between_no (m := m) (gh := gh) hl a
    have i2 := between_no (m := m) (gh := gh) hl b
    have hNl : (m.nodes.map nodeV).length = m.nodes.length := by simp
    generalize hw : IntKind.i64.wrap ((m.nodes.length : Int) - 1) = w at *
    have hret : ∀ r, r ≠ 0 → pairE m.nodes f ini (a, b) = r → D_ref_CheckModel_b3 pg (.sl false 1 (f.map B)) k (LP ps) j (LN m.nodes) (LP m.inits) (LP m.nexts) (LI m.bads) (LI m.holds) gh = some (.ret, ⟨[(2, I r)], [], gh⟩) →
        runL pg f_ref_CheckModel_l3 ⟨[(1, .ptr false 0 0), (5, .sl false 1 (f.map B)), (6, I (k : Int)), (7, LP ps), (8, I (j : Int))], [mcells m], gh⟩ =
      if (if pairE m.nodes f ini (a, b) = 0 then pairsE m.nodes f ini (ps.drop (j + 1)) else pairE m.nodes f ini (a, b)) = 0 then some (.normal, ⟨[(1, .ptr false 0 0), (5, .sl false 1 (f.map B)), (6, I (k : Int))], [mcells m], gh⟩)
      else some (.ret, ⟨[(2, I (if pairE m.nodes f ini (a, b) = 0 then pairsE m.nodes f ini (ps.drop (j + 1)) else pairE m.nodes f ini (a, b)))], [], gh⟩) := by
      intro r hr he hD
      rw [he, if_neg hr, if_neg hr]
      exact lp_ret (D_ref_CheckModel_b3_ok hD)
    by_cases h1 : isNo m.nodes a
    · rw [decide_eq_true h1] at i1
      by_cases h2 : isNo m.nodes b
      · rw [decide_eq_true h2] at i2
        have n1 := node_at h1
        have n2 := node_at h2
        have z1 := h1.1
        have z2 := h2.1
        have hfr := fr_idx (f := f) (a := b) (by rw [hf]; exact h2.2)
        by_cases h3 : (m.nodes.getD a.toNat default).k = 3
        · by_cases h4 : wAt m.nodes a = wAt m.nodes b
          · by_cases h5 : ini = true ∧ f.getD b.toNat false = true
            · refine hret 4 (by decide) (by simp only [pairE]; rw [if_neg (by rintro (h | h | h) <;> contradiction), if_neg (fun h => h h4), if_pos h5]) ?_
              obtain ⟨rfl, h5⟩ := h5
              rw [h5] at hfr
              unfold wAt at h4
              generalize m.nodes.getD a.toNat default = d1 at *
              generalize m.nodes.getD b.toNat default = d2 at *
              rw [nodeV_def d1] at n1
              rw [nodeV_def d2] at n2
              have d3 : decide (d1.k = 3) = true := decide_eq_true h3
              simp only [D_ref_CheckModel_b3, hk0]
              simp [hltD, hx, hw, i1, i2, z1, z2, n1, n2, d3, h4, hfr, -List.getElem?_map]
            · have he : pairE m.nodes f ini (a, b) = 0 := by simp only [pairE]; rw [if_neg (by rintro (h | h | h) <;> contradiction), if_neg (fun h => h h4), if_neg h5]
              rw [he, if_pos rfl]
              refine lp_next (s1 := ⟨[(1, .ptr false 0 0), (5, .sl false 1 (f.map B)), (6, I (k : Int)), (7, LP ps), (8, I ((j + 1 : Nat) : Int))], [mcells m], gh⟩) (D_ref_CheckModel_b3_ok ?_) ?_
              · unfold wAt at h4
                generalize m.nodes.getD a.toNat default = d1 at *
                generalize m.nodes.getD b.toNat default = d2 at *
                rw [nodeV_def d1] at n1
                rw [nodeV_def d2] at n2
                have d3 : decide (d1.k = 3) = true := decide_eq_true h3
                simp only [D_ref_CheckModel_b3, hk0]
                cases ini with
                | true =>
                  have h5 : f.getD b.toNat false = false := by simpa using h5
                  rw [h5] at hfr
                  generalize f.map B = F at *
                  simp [hltD, hx, hw, i1, i2, z1, z2, n1, n2, d3, h4, hfr, e2, -List.getElem?_map]
                | false =>
                  generalize f.map B = F at *
                  simp [hltD, hx, hw, i1, i2, z1, z2, n1, n2, d3, h4, e2, -List.getElem?_map]
              · rw [← hini]
                exact RC_l3 hf hl hs n (j + 1) (by omega)
          · refine hret 1 (by decide) (by simp only [pairE]; rw [if_neg (by rintro (h | h | h) <;> contradiction), if_pos h4]) ?_
            unfold wAt at h4
            generalize m.nodes.getD a.toNat default = d1 at *
            generalize m.nodes.getD b.toNat default = d2 at *
            rw [nodeV_def d1] at n1
            rw [nodeV_def d2] at n2
            have d3 : decide (d1.k = 3) = true := decide_eq_true h3
            simp only [D_ref_CheckModel_b3, hk0]
            simp [hltD, hx, hw, i1, i2, z1, z2, n1, n2, d3, h4, -List.getElem?_map]
        · refine hret 5 (by decide) (by simp only [pairE]; rw [if_pos (.inr (.inr h3))]) ?_
          generalize m.nodes.getD a.toNat default = d1 at *
          rw [nodeV_def d1] at n1
          have d3 : decide (d1.k = 3) = false := decide_eq_false h3
          simp only [D_ref_CheckModel_b3, hk0]
          simp [hltD, hx, hw, i1, i2, z1, n1, d3, -List.getElem?_map]
      · rw [decide_eq_false h2] at i2
        refine hret 5 (by decide) (by simp only [pairE]; rw [if_pos (.inr (.inl h2))]) ?_
        simp only [D_ref_CheckModel_b3, hk0]
        simp [hltD, hx, hw, i1, i2, -List.getElem?_map]
    · rw [decide_eq_false h1] at i1
      refine hret 5 (by decide) (by simp only [pairE]; rw [if_pos (.inl h1)]) ?_
      simp only [D_ref_CheckModel_b3, hk0]
      simp [hltD, hx, hw, i1, -List.getElem?_map]

theorem RC_l6 {ps : List (Int × Int)} {k i : Nat} {s w : Int} (hs : Sz ps.length) (hi : ps[i]? = some (s, w)) : ∀ n j, j + n = i →
    runL pg f_ref_CheckModel_l6 ⟨[(1, .ptr false 0 0), (10, I (k : Int)), (11, LP ps), (12, I (i : Int)), (13, I (j : Int))], [mcells m], gh⟩ =
      if ((ps.take i).drop j).any (fun q => decide (s = q.1)) = true then some (.ret, ⟨[(2, I 6)], [], gh⟩)
      else some (.normal, ⟨[(1, .ptr false 0 0), (10, I (k : Int)), (11, LP ps), (12, I (i : Int))], [mcells m], gh⟩)
  | 0, j, h => by
    have hil := (List.getElem?_eq_some_iff.1 hi).1
    rw [List.drop_eq_nil_of_le (by simp; omega), List.any_nil, if_neg (by simp)]
    have hlt : ¬ (j : Int) < (i : Int) := by omega
    refine (lp_exit (s1 := ?s1) (D_ref_CheckModel_b6_ok ?h1)).trans ?r1
    case h1 => simp only [D_ref_CheckModel_b6, decide_eq_false hlt, br_false]; simp; rfl
    case r1 => simp [keep, stays]
  | n + 1, j, h => by
    have hil := (List.getElem?_eq_some_iff.1 hi).1
    have hlt : (j : Int) < (i : Int) := by omega
    have hltD : decide ((j : Int) < (i : Int)) = true := decide_eq_true hlt
    have e2 : IntKind.i64.wrap ((j : Int) + 1) = ((j + 1 : Nat) : Int) := wrap_nat (by simp only [Sz] at hs ⊢; omega)
    have hj : j < (ps.take i).length := by simp; omega
    have hx : (ps.map andV)[j]? = some (andV (ps.take i)[j]) := by simp [List.getElem?_eq_getElem (show j < ps.length by omega)]
    have hy : (ps.map andV)[i]? = some (andV (s, w)) := by simp [hi]
    rw [andV_def] at hx hy
    rw [List.drop_eq_getElem_cons hj, List.any_cons]
    generalize (ps.take i)[j] = q at *
    obtain ⟨a, b⟩ := q
    simp only at hx hy ⊢
    by_cases he : s = a
    · rw [decide_eq_true he, Bool.true_or, if_pos rfl]
      refine lp_ret (D_ref_CheckModel_b6_ok ?_)
      simp only [D_ref_CheckModel_b6, hltD]
      simp [hx, hy, he, -List.getElem?_map]
    · rw [decide_eq_false he, Bool.false_or]
      refine lp_next (s1 := ⟨[(1, .ptr false 0 0), (10, I (k : Int)), (11, LP ps), (12, I (i : Int)), (13, I ((j + 1 : Nat) : Int))], [mcells m], gh⟩) (D_ref_CheckModel_b6_ok ?_) (RC_l6 hs hi n (j + 1) (by omega))
      simp only [D_ref_CheckModel_b6, hltD]
      simp [hx, hy, he, e2, -List.getElem?_map]

theorem RC_l5 {ps : List (Int × Int)} {k : Nat} (hs : Sz ps.length) : ∀ n i, i + n = ps.length →
    runL pg f_ref_CheckModel_l5 ⟨[(1, .ptr false 0 0), (10, I (k : Int)), (11, LP ps), (12, I (i : Int))], [mcells m], gh⟩ =
      if dupF (ps.take i) (ps.drop i) = true then some (.ret, ⟨[(2, I 6)], [], gh⟩) else some (.normal, ⟨[(1, .ptr false 0 0), (10, I (k : Int))], [mcells m], gh⟩)
  | 0, i, h => by
    rw [List.drop_eq_nil_of_le (by omega), dupF, if_neg (by simp)]
    have hlt : ¬ i < ps.length := by omega
    refine (lp_exit (s1 := ?s1) (D_ref_CheckModel_b5_ok ?h1)).trans ?r1
    case h1 => simp only [D_ref_CheckModel_b5]; simp [hlt]; rfl
    case r1 => simp [keep, stays]
  | n + 1, i, h => by
    have hlt : i < ps.length := by omega
    have hltD : decide (i < ps.length) = true := decide_eq_true hlt
    have e2 : IntKind.i64.wrap ((i : Int) + 1) = ((i + 1 : Nat) : Int) := wrap_nat (by simp only [Sz] at hs ⊢; omega)
    have hg : ps[i]? = some (ps[i].1, ps[i].2) := List.getElem?_eq_getElem hlt
    have h6 := RC_l6 (m := m) (gh := gh) (k := k) hs hg i 0 (by omega)
    rw [List.drop_zero] at h6
    simp only [Int.natCast_zero] at h6
    have htk : ps.take i ++ [ps[i]] = ps.take (i + 1) := by simp
    have hPl : (ps.map andV).length = ps.length := by simp
    rw [List.drop_eq_getElem_cons hlt, dupF, htk]
    have k6 : runL pg f_ref_CheckModel_k6 ⟨[(1, .ptr false 0 0), (10, I (k : Int)), (11, LP ps), (12, I (i : Int))], [mcells m], gh⟩ = some (.normal, ⟨[(1, .ptr false 0 0), (10, I (k : Int)), (11, LP ps), (12, I ((i + 1 : Nat) : Int))], [mcells m], gh⟩) := by
      refine D_ref_CheckModel_k6_ok ?_
      simp [D_ref_CheckModel_k6, e2]
    have hrec := RC_l5 (k := k) hs n (i + 1) (by omega)
    cases hd : (ps.take i).any (fun q => decide (ps[i].1 = q.1)) with
    | true =>
      rw [hd, if_pos rfl] at h6
      rw [Bool.true_or, if_pos rfl]
      refine lp_ret (D_ref_CheckModel_b5_ok ?_)
      simp only [mcells] at *
      simp only [D_ref_CheckModel_b5]
      simp [hltD, h6]
    | false =>
      rw [hd, if_neg (by simp)] at h6
      rw [Bool.false_or]
      refine lp_next (s1 := ⟨[(1, .ptr false 0 0), (10, I (k : Int)), (11, LP ps), (12, I ((i + 1 : Nat) : Int))], [mcells m], gh⟩) (D_ref_CheckModel_b5_ok ?_) hrec
      simp only [mcells] at *
      simp only [D_ref_CheckModel_b5]
      simp [hltD, h6, k6]

theorem RC_l7 {xs : List Int} (hl : m.nodes.length ≤ 1000) (hs : Sz xs.length) : ∀ n i, i + n = xs.length →
    runL pg f_ref_CheckModel_l7 ⟨[(1, .ptr false 0 0), (14, .sl true 1 (xs.map I)), (15, I (i : Int))], [mcells m], gh⟩ =
      if (xs.drop i).any (fun a => !decide (isNo m.nodes a)) = true then some (.ret, ⟨[(2, I 5)], [], gh⟩) else some (.normal, ⟨[(1, .ptr false 0 0), (14, .sl true 1 (xs.map I))], [mcells m], gh⟩)
  | 0, i, h => by
    rw [List.drop_eq_nil_of_le (by omega), List.any_nil, if_neg (by simp)]
    have hlt : ¬ i < xs.length := by omega
    refine (lp_exit (s1 := ?s1) (D_ref_CheckModel_b7_ok ?h1)).trans ?r1
    case h1 => simp only [D_ref_CheckModel_b7]; simp [hlt]; rfl
    case r1 => simp [keep, stays]
  | n + 1, i, h => by
    have hlt : i < xs.length := by omega
    have hltD : decide (i < xs.length) = true := decide_eq_true hlt
    have e2 : IntKind.i64.wrap ((i : Int) + 1) = ((i + 1 : Nat) : Int) := wrap_nat (by simp only [Sz] at hs ⊢; omega)
    have hg : (xs.map I)[i]? = some (I xs[i]) := by simp [List.getElem?_eq_getElem hlt]
    have hb := between_no (m := m) (gh := gh) hl xs[i]
    generalize hw : IntKind.i64.wrap ((m.nodes.length : Int) - 1) = w at *
    have hrec := RC_l7 hl hs n (i + 1) (by omega)
    rw [List.drop_eq_getElem_cons hlt, List.any_cons]
    generalize xs[i] = a at *
    by_cases hn : isNo m.nodes a
    · rw [decide_eq_true hn] at hb ⊢
      rw [Bool.not_true, Bool.false_or]
      refine lp_next (s1 := ⟨[(1, .ptr false 0 0), (14, .sl true 1 (xs.map I)), (15, I ((i + 1 : Nat) : Int))], [mcells m], gh⟩) (D_ref_CheckModel_b7_ok ?_) hrec
      simp only [D_ref_CheckModel_b7]
      simp [hltD, hg, hw, hb, e2, -List.getElem?_map]
    · rw [decide_eq_false hn] at hb ⊢
      rw [Bool.not_false, Bool.true_or, if_pos rfl]
      refine lp_ret (D_ref_CheckModel_b7_ok ?_)
      simp only [D_ref_CheckModel_b7]
      simp [hltD, hg, hw, hb, -List.getElem?_map]

theorem RC_l8 {xs : List Int} (hn : ∀ a ∈ xs, isNo m.nodes a) (hs : Sz xs.length) : ∀ n i, i + n = xs.length →
    runL pg f_ref_CheckModel_l8 ⟨[(1, .ptr false 0 0), (14, .sl true 1 (xs.map I)), (16, I (i : Int))], [mcells m], gh⟩ =
      if (xs.drop i).any (fun a => !decide (wAt m.nodes a = 1)) = true then some (.ret, ⟨[(2, I 1)], [], gh⟩) else some (.normal, ⟨[], [], gh⟩)
  | 0, i, h => by
    rw [List.drop_eq_nil_of_le (by omega), List.any_nil, if_neg (by simp)]
    have hlt : ¬ i < xs.length := by omega
    refine (lp_exit (s1 := ?s1) (D_ref_CheckModel_b8_ok ?h1)).trans ?r1
    case h1 => simp only [D_ref_CheckModel_b8]; simp [hlt]; rfl
    case r1 => simp [keep]
  | n + 1, i, h => by
    have hlt : i < xs.length := by omega
    have hltD : decide (i < xs.length) = true := decide_eq_true hlt
    have e2 : IntKind.i64.wrap ((i : Int) + 1) = ((i + 1 : Nat) : Int) := wrap_nat (by simp only [Sz] at hs ⊢; omega)
    have hg : (xs.map I)[i]? = some (I xs[i]) := by simp [List.getElem?_eq_getElem hlt]
    have hno := hn _ (List.getElem_mem hlt)
    have hn1 := node_at hno
    have h0 := hno.1
    have hrec := RC_l8 hn hs n (i + 1) (by omega)
    rw [List.drop_eq_getElem_cons hlt, List.any_cons]
    generalize xs[i] = a at *
    unfold wAt at hrec ⊢
    generalize m.nodes.getD a.toNat default = d at *
    rw [nodeV_def d] at hn1
    by_cases hw : d.w = 1
    · rw [decide_eq_true hw, Bool.not_true, Bool.false_or]
      refine lp_next (s1 := ⟨[(1, .ptr false 0 0), (14, .sl true 1 (xs.map I)), (16, I ((i + 1 : Nat) : Int))], [mcells m], gh⟩) (D_ref_CheckModel_b8_ok ?_) hrec
      simp only [D_ref_CheckModel_b8]
      simp [hltD, hg, h0, hn1, hw, e2, -List.getElem?_map]
    · rw [decide_eq_false hw, Bool.not_false, Bool.true_or, if_pos rfl]
      refine lp_ret (D_ref_CheckModel_b8_ok ?_)
      simp only [D_ref_CheckModel_b8]
      simp [hltD, hg, h0, hn1, hw, -List.getElem?_map]

end
end Go.Lw
end

/-! Models: the whole check (the document). -/
section
namespace Go.Lw
open Go
section
variable {m : Md} {gh : List GObj}

theorem RC_l2 {f : List Bool} (hf : f.length = m.nodes.length) (hl : m.nodes.length ≤ 1000) (h1 : Sz m.inits.length) (h2 : Sz m.nexts.length) :
    runL pg f_ref_CheckModel_l2 ⟨[(1, .ptr false 0 0), (5, .sl false 1 (f.map B)), (6, I 0)], [mcells m], gh⟩ =
      if pairsE m.nodes f true m.inits ≠ 0 then some (.ret, ⟨[(2, I (pairsE m.nodes f true m.inits))], [], gh⟩)
      else if pairsE m.nodes f false m.nexts ≠ 0 then some (.ret, ⟨[(2, I (pairsE m.nodes f false m.nexts))], [], gh⟩)
      else some (.normal, ⟨[(1, .ptr false 0 0)], [mcells m], gh⟩) := by
  have l1 := RC_l3 (gh := gh) (m := m) (ps := m.inits) (k := 0) hf hl h1 m.inits.length 0 (by omega)
  have l2 := RC_l3 (gh := gh) (m := m) (ps := m.nexts) (k := 1) hf hl h2 m.nexts.length 0 (by omega)
  rw [List.drop_zero] at l1 l2
  simp only [Int.natCast_zero, decide_true] at l1 l2
  rw [show decide (1 = 0) = false from rfl] at l2
  simp only [Int.natCast_one] at l1 l2
  have w1 : IntKind.i64.wrap (0 + 1) = 1 := by decide
  have w2 : IntKind.i64.wrap (1 + 1) = 2 := by decide
  generalize f.map B = F at *
  have k3 : ∀ x, runL pg f_ref_CheckModel_k3 ⟨[(1, .ptr false 0 0), (5, .sl false 1 F), (6, I x)], [mcells m], gh⟩ = some (.normal, ⟨[(1, .ptr false 0 0), (5, .sl false 1 F), (6, I (IntKind.i64.wrap (x + 1)))], [mcells m], gh⟩) := fun x => by
    refine D_ref_CheckModel_k3_ok ?_
    simp [D_ref_CheckModel_k3]
  have k2 : ∀ x ps e s, runL pg f_ref_CheckModel_l3 ⟨[(1, .ptr false 0 0), (5, .sl false 1 F), (6, I x), (7, LP ps), (8, I 0)], [mcells m], gh⟩ = some (e, s) → runL pg f_ref_CheckModel_k2 ⟨[(1, .ptr false 0 0), (5, .sl false 1 F), (6, I x), (7, LP ps)], [mcells m], gh⟩ = some (e, s) := fun x ps e s h => by
    refine D_ref_CheckModel_k2_ok ?_
    simp only [mcells] at *
    simp [D_ref_CheckModel_k2, h]
  by_cases e1 : pairsE m.nodes f true m.inits = 0
  · rw [if_pos e1] at l1
    rw [if_neg (fun h => h e1)]
    have k30 := k3 0
    rw [w1] at k30
    have k20 := k2 _ _ _ _ l1
    refine lp_next (s1 := ⟨[(1, .ptr false 0 0), (5, .sl false 1 F), (6, I 1)], [mcells m], gh⟩) (D_ref_CheckModel_b2_ok (by
      simp only [mcells] at *
      simp [D_ref_CheckModel_b2, k20, k30])) ?_
    by_cases e2 : pairsE m.nodes f false m.nexts = 0
    · rw [if_pos e2] at l2
      rw [if_neg (fun h => h e2)]
      have k31 := k3 1
      rw [w2] at k31
      have k21 := k2 _ _ _ _ l2
      refine lp_next (s1 := ⟨[(1, .ptr false 0 0), (5, .sl false 1 F), (6, I 2)], [mcells m], gh⟩) (D_ref_CheckModel_b2_ok (by
        simp only [mcells] at *
        simp [D_ref_CheckModel_b2, k21, k31])) ?_
      refine (lp_exit (s1 := ?s1) (D_ref_CheckModel_b2_ok ?h1)).trans ?r1
      case h1 => simp [D_ref_CheckModel_b2]; rfl
      case r1 => simp [keep, stays]
    · rw [if_neg e2] at l2
      rw [if_pos e2]
      have k21 := k2 _ _ _ _ l2
      refine lp_ret (D_ref_CheckModel_b2_ok ?_)
      simp only [mcells] at *
      simp [D_ref_CheckModel_b2, k21]
  · rw [if_neg e1] at l1
    rw [if_pos e1]
    have k20 := k2 _ _ _ _ l1
    refine lp_ret (D_ref_CheckModel_b2_ok ?_)
    simp only [mcells] at *
    simp [D_ref_CheckModel_b2, k20]

theorem RC_l4 (h1 : Sz m.inits.length) (h2 : Sz m.nexts.length) :
    runL pg f_ref_CheckModel_l4 ⟨[(1, .ptr false 0 0), (10, I 0)], [mcells m], gh⟩ =
      if twice m.inits ∨ twice m.nexts then some (.ret, ⟨[(2, I 6)], [], gh⟩) else some (.normal, ⟨[(1, .ptr false 0 0)], [mcells m], gh⟩) := by
  have l1 := RC_l5 (gh := gh) (m := m) (ps := m.inits) (k := 0) h1 m.inits.length 0 (by omega)
  have l2 := RC_l5 (gh := gh) (m := m) (ps := m.nexts) (k := 1) h2 m.nexts.length 0 (by omega)
  rw [List.drop_zero, List.take_zero, dupF_twice] at l1 l2
  simp only [Int.natCast_zero, Int.natCast_one, decide_eq_true_eq] at l1 l2
  have w1 : IntKind.i64.wrap (0 + 1) = 1 := by decide
  have w2 : IntKind.i64.wrap (1 + 1) = 2 := by decide
  have k7 : ∀ x, runL pg f_ref_CheckModel_k7 ⟨[(1, .ptr false 0 0), (10, I x)], [mcells m], gh⟩ = some (.normal, ⟨[(1, .ptr false 0 0), (10, I (IntKind.i64.wrap (x + 1)))], [mcells m], gh⟩) := fun x => by
    refine D_ref_CheckModel_k7_ok ?_
    simp [D_ref_CheckModel_k7]
  have k5 : ∀ x ps e s, runL pg f_ref_CheckModel_l5 ⟨[(1, .ptr false 0 0), (10, I x), (11, LP ps), (12, I 0)], [mcells m], gh⟩ = some (e, s) → runL pg f_ref_CheckModel_k5 ⟨[(1, .ptr false 0 0), (10, I x), (11, LP ps)], [mcells m], gh⟩ = some (e, s) := fun x ps e s h => by
    refine D_ref_CheckModel_k5_ok ?_
    simp only [mcells] at *
    simp [D_ref_CheckModel_k5, h]
  by_cases t1 : twice m.inits
  · rw [if_pos t1] at l1
    rw [if_pos (.inl t1)]
    have k50 := k5 _ _ _ _ l1
    refine lp_ret (D_ref_CheckModel_b4_ok ?_)
    simp only [mcells] at *
    simp [D_ref_CheckModel_b4, k50]
  · rw [if_neg t1] at l1
    have k50 := k5 _ _ _ _ l1
    have k70 := k7 0
    rw [w1] at k70
    refine lp_next (s1 := ⟨[(1, .ptr false 0 0), (10, I 1)], [mcells m], gh⟩) (D_ref_CheckModel_b4_ok (by
      simp only [mcells] at *
      simp [D_ref_CheckModel_b4, k50, k70])) ?_
    by_cases t2 : twice m.nexts
    · rw [if_pos t2] at l2
      rw [if_pos (.inr t2)]
      have k51 := k5 _ _ _ _ l2
      refine lp_ret (D_ref_CheckModel_b4_ok ?_)
      simp only [mcells] at *
      simp [D_ref_CheckModel_b4, k51]
    · rw [if_neg t2] at l2
      rw [if_neg (by rintro (h | h) <;> contradiction)]
      have k51 := k5 _ _ _ _ l2
      have k71 := k7 1
      rw [w2] at k71
      refine lp_next (s1 := ⟨[(1, .ptr false 0 0), (10, I 2)], [mcells m], gh⟩) (D_ref_CheckModel_b4_ok (by
        simp only [mcells] at *
        simp [D_ref_CheckModel_b4, k51, k71])) ?_
      refine (lp_exit (s1 := ?s1) (D_ref_CheckModel_b4_ok ?h1)).trans ?r1
      case h1 => simp [D_ref_CheckModel_b4]; rfl
      case r1 => simp [keep, stays]

def marksR (m : Md) : Int :=
  if m.nexts.length ≠ (kindL m.nodes 3).length then 5 else if (m.bads ++ m.holds).any (fun a => !decide (isNo m.nodes a)) then 5
  else if (m.bads ++ m.holds).any (fun a => !decide (wAt m.nodes a = 1)) then 1 else 0

theorem RC_k8 (hl : m.nodes.length ≤ 1000) (h1 : m.bads.length ≤ 100) (h2 : m.holds.length ≤ 100) :
    runL pg f_ref_CheckModel_k8 ⟨[(1, .ptr false 0 0)], [mcells m], gh⟩ = some (.ret, ⟨[(2, I (marksR m))], [], gh⟩) := by
  have ho := RNodes_eq (m := m) (gh := gh) (kind := 3) (by omega)
  rw [modelV_def] at ho
  have hm : maxBytes = 140737488355328 := rfl
  have hm1 : m.bads.length * 8 ≤ maxBytes := by omega
  have hm2 : (m.bads.length + m.holds.length) * 8 ≤ maxBytes := by omega
  have hsz : Sz (m.bads ++ m.holds).length := by simp only [Sz, List.length_append]; omega
  have l7 := RC_l7 (m := m) (gh := gh) (xs := m.bads ++ m.holds) hl hsz (m.bads ++ m.holds).length 0 (by omega)
  have l8 : (∀ a ∈ m.bads ++ m.holds, isNo m.nodes a) → _ := fun hn => RC_l8 (m := m) (gh := gh) (xs := m.bads ++ m.holds) hn hsz (m.bads ++ m.holds).length 0 (by omega)
  rw [List.drop_zero] at l7
  rw [List.drop_zero] at l8
  simp only [Int.natCast_zero] at l7 l8
  have hnb : (m.bads ++ m.holds).any (fun a => !decide (isNo m.nodes a)) = false → ∀ a ∈ m.bads ++ m.holds, isNo m.nodes a := fun h a ha => by
    have := List.any_eq_false.1 h a ha
    simpa using this
  unfold marksR
  generalize (m.bads ++ m.holds).any (fun a => !decide (isNo m.nodes a)) = p1 at *
  generalize (m.bads ++ m.holds).any (fun a => !decide (wAt m.nodes a = 1)) = p2 at *
  generalize hK : kindL m.nodes 3 = K at *
  have hKl : (K.map I).length = K.length := by simp
  have hXl : (m.nexts.map andV).length = m.nexts.length := by simp
  have hBl : (m.bads.map I).length = m.bads.length := by simp
  have hHl : (m.holds.map I).length = m.holds.length := by simp
  have k10 := D_ref_CheckModel_k10_ok (pg := pg) (gh := gh) (e := .ret) (s := ⟨[(2, I 0)], [], gh⟩) rfl
  have k9r : ∀ M s, runL pg f_ref_CheckModel_l8 ⟨[(1, .ptr false 0 0), (14, .sl true 1 M), (16, I 0)], [mcells m], gh⟩ = some (.ret, s) → runL pg f_ref_CheckModel_k9 ⟨[(1, .ptr false 0 0), (14, .sl true 1 M)], [mcells m], gh⟩ = some (.ret, s) := fun M s h => by
    simp only [mcells] at *
    refine D_ref_CheckModel_k9_ok ?_
    simp [D_ref_CheckModel_k9, h]
  have k9n : ∀ M, runL pg f_ref_CheckModel_l8 ⟨[(1, .ptr false 0 0), (14, .sl true 1 M), (16, I 0)], [mcells m], gh⟩ = some (.normal, ⟨[], [], gh⟩) → runL pg f_ref_CheckModel_k9 ⟨[(1, .ptr false 0 0), (14, .sl true 1 M)], [mcells m], gh⟩ = some (.ret, ⟨[(2, I 0)], [], gh⟩) := fun M h => by
    simp only [mcells] at *
    refine D_ref_CheckModel_k9_ok ?_
    simp [D_ref_CheckModel_k9, h, k10]
  refine D_ref_CheckModel_k8_ok ?_
  simp only [List.map_append] at l7 l8
  simp only [LI, mcells] at *
  generalize m.bads.map I = M1 at *
  generalize m.holds.map I = M2 at *
  generalize K.map I = K' at *
  generalize m.nexts.map andV = X' at *
  by_cases e1 : m.nexts.length = K.length
  · rw [if_neg (fun h => h e1)]
    cases p1 with
    | true =>
      rw [if_pos rfl] at l7 ⊢
      simp [D_ref_CheckModel_k8, ho, hKl, hXl, e1, hBl, hHl, hm1, hm2, l7]
    | false =>
      rw [if_neg (by simp)] at l7 ⊢
      have l8 := l8 (hnb rfl)
      cases p2 with
      | true =>
        rw [if_pos rfl] at l8 ⊢
        have k9 := k9r _ _ l8
        simp [D_ref_CheckModel_k8, ho, hKl, hXl, e1, hBl, hHl, hm1, hm2, l7, k9]
      | false =>
        rw [if_neg (by simp)] at l8 ⊢
        have k9 := k9n _ l8
        simp [D_ref_CheckModel_k8, ho, hKl, hXl, e1, hBl, hHl, hm1, hm2, l7, k9]
  · rw [if_pos e1]
    have e1' : ¬ (m.nexts.length : Int) = (K.length : Int) := by omega
    simp [D_ref_CheckModel_k8, ho, hKl, hXl, e1']

theorem marksR_eq {f : List Bool} (h : pairsAll m f = 0) : marksR m = marksE m := by
  unfold pairsAll at h
  split at h
  · contradiction
  split at h
  · contradiction
  rename_i h1 h2
  split at h
  · contradiction
  rename_i h3
  have hd : (m.nexts.map (·.1)).Nodup := by
    have := fun h => h3 (.inr h)
    unfold twice at this
    exact Classical.byContradiction this
  have hz : ∀ (l : List (Int × Int)), pairsE m.nodes f false l = 0 → ∀ p ∈ l, p.1 ∈ kindL m.nodes 3 := by
    intro l
    induction l with
    | nil => intro _ p hp; simp at hp
    | cons q l ih =>
      intro hq p hp
      rw [pairsE] at hq
      split at hq
      · rename_i hq0
        rcases List.mem_cons.1 hp with rfl | hp
        · unfold pairE at hq0
          split at hq0
          · contradiction
          rename_i hn
          have hi : isNo m.nodes p.1 := Classical.byContradiction fun h => hn (.inl h)
          have hk : (m.nodes.getD p.1.toNat default).k = 3 := Classical.byContradiction fun h => hn (.inr (.inr h))
          refine kindF_mem.2 ⟨p.1.toNat, hi.2, ?_, ?_⟩
          · have := hi.1; omega
          · rw [List.getD_eq_getElem?_getD, List.getElem?_eq_getElem hi.2] at hk
            rw [List.getElem?_eq_getElem hi.2]
            simpa using hk
        · exact ih hq p hp
      · contradiction
  have hle : m.nexts.length ≤ (kindL m.nodes 3).length := by
    have := List.Nodup.length_le_of_subset hd (l₂ := kindL m.nodes 3) (fun a ha => by
      obtain ⟨p, hp, rfl⟩ := List.mem_map.1 ha
      exact hz _ (by simpa using h2) p hp)
    simpa using this
  unfold marksR marksE
  by_cases he : m.nexts.length = (kindL m.nodes 3).length
  · rw [if_neg (c := m.nexts.length ≠ _) (fun h => h he), if_neg (c := m.nexts.length < _) (by omega)]
  · rw [if_pos he, if_pos (by omega)]

theorem CheckModel_eq (h1 : Sz m.inits.length) (h2 : Sz m.nexts.length) : callL pg 36 [modelV m] gh = some (I (checkE m), gh) := by
  unfold checkE
  have hNl : (m.nodes.map nodeV).length = m.nodes.length := by simp
  have hBl : (m.bads.map I).length = m.bads.length := by simp
  have hHl : (m.holds.map I).length = m.holds.length := by simp
  rw [modelV_def]
  by_cases c1 : m.nodes.length > 80 ∨ m.bads.length > 8 ∨ m.holds.length > 8
  · rw [if_pos c1]
    refine callL_fn (fn := f_ref_CheckModel) (s := ⟨[(2, I 2)], [], gh⟩) rfl rfl (D_ref_CheckModel_0_ok ?h1) ?r1
    case r1 => simp [finish, results, f_ref_CheckModel, resOfs, resOf, resOk]
    case h1 =>
      by_cases d1 : (80 : Int) < (m.nodes.length : Int)
      · simp [D_ref_CheckModel_0, d1]
      · by_cases d2 : (8 : Int) < (m.bads.length : Int)
        · simp [D_ref_CheckModel_0, d1, d2]
        · have d3 : (8 : Int) < (m.holds.length : Int) := by omega
          simp [D_ref_CheckModel_0, d1, d2, d3]
  · rw [if_neg c1]
    have d1 : ¬ (80 : Int) < (m.nodes.length : Int) := by omega
    have d2 : ¬ (8 : Int) < (m.bads.length : Int) := by omega
    have d3 : ¬ (8 : Int) < (m.holds.length : Int) := by omega
    have hl := RC_l1 (m := m) (gh := gh) (by omega) m.nodes.length 0 (by omega)
    rw [List.drop_zero] at hl
    simp only [Int.natCast_zero, mcells] at hl
    by_cases hn : nodesE m.nodes 0 m.nodes = 0
    · rw [if_neg (fun h => h hn)]
      rw [if_pos hn] at hl
      have hb2 := RBits_eq (m := m) (gh := gh) (kind := 2) (by omega)
      have hb3 := RBits_eq (m := m) (gh := gh) (kind := 3) (by omega)
      have hlen := hangs_eq (m := m) (gh := gh) (ahead_of hn) (by omega)
      rw [modelV_def] at hb2 hb3 hlen
      have hf : (hangF [] m.nodes).length = m.nodes.length := by simpa using hangF_len [] m.nodes
      have l2 := RC_l2 (gh := gh) hf (by omega) h1 h2
      have l4 := RC_l4 (m := m) (gh := gh) h1 h2
      have k8 := RC_k8 (m := m) (gh := gh) (by omega) (by omega) (by omega)
      have hme := marksR_eq (m := m) (f := hangF [] m.nodes)
      unfold pairsAll at hme ⊢
      simp only [mcells] at *
      generalize (hangF [] m.nodes).map B = F at *
      generalize pairsE m.nodes (hangF [] m.nodes) true m.inits = r1 at *
      generalize pairsE m.nodes (hangF [] m.nodes) false m.nexts = r2 at *
      by_cases hbt : bitsK m.nodes 2 > 6 ∨ bitsK m.nodes 3 > 10
      · rw [if_pos hbt]
        have k1 : runL pg f_ref_CheckModel_k1 ⟨[(1, .ptr false 0 0)], [[LN m.nodes, LP m.inits, LP m.nexts, LI m.bads, LI m.holds]], gh⟩ = some (.ret, ⟨[(2, I 2)], [], gh⟩) := by
          refine D_ref_CheckModel_k1_ok ?_
          by_cases b1 : 6 < bitsK m.nodes 2
          · simp [D_ref_CheckModel_k1, hb2, b1]
          · have b2 : 10 < bitsK m.nodes 3 := by omega
            simp [D_ref_CheckModel_k1, hb2, hb3, b1, b2]
        refine callL_fn (fn := f_ref_CheckModel) (s := ⟨[(2, I 2)], [], gh⟩) rfl rfl (D_ref_CheckModel_0_ok ?h2) ?r2
        case r2 => simp [finish, results, f_ref_CheckModel, resOfs, resOf, resOk]
        case h2 => simp [D_ref_CheckModel_0, d1, d2, d3, hl, k1]
      · rw [if_neg hbt]
        have b1 : ¬ 6 < bitsK m.nodes 2 := by omega
        have b2 : ¬ 10 < bitsK m.nodes 3 := by omega
        have fin : ∀ r, runL pg f_ref_CheckModel_k1 ⟨[(1, .ptr false 0 0)], [[LN m.nodes, LP m.inits, LP m.nexts, LI m.bads, LI m.holds]], gh⟩ = some (.ret, ⟨[(2, I r)], [], gh⟩) → callL pg 36 [.agg [LN m.nodes, LP m.inits, LP m.nexts, LI m.bads, LI m.holds]] gh = some (I r, gh) := fun r k1 => by
          refine callL_fn (fn := f_ref_CheckModel) (s := ⟨[(2, I r)], [], gh⟩) rfl rfl (D_ref_CheckModel_0_ok ?h3) ?r3
          case r3 => simp [finish, results, f_ref_CheckModel, resOfs, resOf, resOk]
          case h3 => simp [D_ref_CheckModel_0, d1, d2, d3, hl, k1]
        by_cases e1 : r1 = 0
        · rw [if_neg (fun h => h e1)] at l2
          by_cases e2 : r2 = 0
          · rw [if_neg (fun h => h e2)] at l2
            by_cases ht : twice m.inits ∨ twice m.nexts
            · rw [if_pos ht] at l4
              have k4 : runL pg f_ref_CheckModel_k4 ⟨[(1, .ptr false 0 0)], [[LN m.nodes, LP m.inits, LP m.nexts, LI m.bads, LI m.holds]], gh⟩ = some (.ret, ⟨[(2, I 6)], [], gh⟩) := by
                refine D_ref_CheckModel_k4_ok ?_
                simp [D_ref_CheckModel_k4, l4]
              simp only [e1, e2, ht, if_true, ne_eq, not_true, if_false]
              refine fin 6 (D_ref_CheckModel_k1_ok ?_)
              simp [D_ref_CheckModel_k1, hb2, hb3, b1, b2, hlen, l2, k4]
            · rw [if_neg ht] at l4
              have k4 : runL pg f_ref_CheckModel_k4 ⟨[(1, .ptr false 0 0)], [[LN m.nodes, LP m.inits, LP m.nexts, LI m.bads, LI m.holds]], gh⟩ = some (.ret, ⟨[(2, I (marksR m))], [], gh⟩) := by
                refine D_ref_CheckModel_k4_ok ?_
                simp [D_ref_CheckModel_k4, l4, k8]
              simp only [e1, e2, ht, if_true, ne_eq, not_true, if_false] at hme ⊢
              rw [← hme trivial]
              refine fin _ (D_ref_CheckModel_k1_ok ?_)
              simp [D_ref_CheckModel_k1, hb2, hb3, b1, b2, hlen, l2, k4]
          · rw [if_pos e2] at l2
            simp only [e1, e2, ne_eq, not_true, not_false_iff, if_false, if_true]
            refine fin _ (D_ref_CheckModel_k1_ok ?_)
            simp [D_ref_CheckModel_k1, hb2, hb3, b1, b2, hlen, l2]
        · rw [if_pos e1] at l2
          simp only [e1, ne_eq, not_true, not_false_iff, if_true]
          refine fin _ (D_ref_CheckModel_k1_ok ?_)
          simp [D_ref_CheckModel_k1, hb2, hb3, b1, b2, hlen, l2]
    · rw [if_pos hn]
      rw [if_neg hn] at hl
      generalize nodesE m.nodes 0 m.nodes = r at *
      refine callL_fn (fn := f_ref_CheckModel) (s := ⟨[(2, I r)], [], gh⟩) rfl rfl (D_ref_CheckModel_0_ok ?h5) ?r5
      case r5 => simp [finish, results, f_ref_CheckModel, resOfs, resOf, resOk]
      case h5 => simp [D_ref_CheckModel_0, d1, d2, d3, hl]

end
end Go.Lw
end

/-! What the code of function ref_SameInts comes to, piece by piece. Written by program (dprint.py). -/
section
set_option maxRecDepth 10000
set_option maxHeartbeats 4000000
namespace Go.Lw
open Go

def an_ref_SameInts : Tr := (.node 13 (.ce (.int .i64)) (.node 7 (.ce (.int .i64)) (.node 4 (.ce (.bool)) (.node 1 (.ce (.one)) (.node 0 (.ce (.one)) .nil .nil) .nil) (.node 6 (.ce (.one)) (.node 5 (.ce (.int .i64)) .nil .nil) .nil)) (.node 10 (.ce (.bool)) (.node 9 (.ce (.int .i64)) (.node 8 (.ce (.one)) .nil .nil) .nil) (.node 12 (.ce (.one)) (.node 11 (.ce (.int .i64)) .nil .nil) .nil))) (.node 20 (.ce (.int .i64)) (.node 16 (.ce (.int .i64)) (.node 15 (.ce (.int .i64)) (.node 14 (.ce (.bool)) .nil .nil) .nil) (.node 18 (.ce (.int .i64)) (.node 17 (.ce (.one)) .nil .nil) .nil)) (.node 24 (.ce (.int .i64)) (.node 22 (.ce (.int .i64)) (.node 21 (.ce (.one)) .nil .nil) .nil) (.node 25 (.ce (.bool)) .nil .nil))))

noncomputable def D_ref_SameInts_b1 (pg : Prg) (v0 : PV) (v1 : PV) (x5 : Int) (gh : List GObj) : Option (IExit × St) := isC (degr v0) (lenS (degr (degr v0)) fun n1 => stK 0 v0 (stK 0 v1 (
  br 14 (decide (x5 < (n1 : Int))) (isC (degr v0) (
  idX 1 none (degr (degr v0)) x5 fun p2 => 
  ldX [] gh false 1 (degr p2) fun v3 => unI .i64 v3 fun n4 => isC (degr v1) (
  idX 1 none (degr (degr v1)) x5 fun p5 => 
  ldX [] gh false 1 (degr p5) fun v6 => unI .i64 v6 fun n7 => stK 0 v0 (stK 0 v1 (
  br 25 (n4 != n7) (some (.ret, ⟨[(4, (.bool false))], [], gh⟩)) (stK 0 v0 (stK 0 v1 (stK 0 v0 (stK 0 v1 (some (.normal, ⟨[(0, v0), (1, v1), (5, (.int .i64 (IntKind.i64.wrap (x5 + 1))))], [], gh⟩))))))))))) (some ((.exit 0), ⟨[(0, v0), (1, v1), (5, (.int .i64 x5)), (14, (.bool (decide (x5 < (n1 : Int)))))], [], gh⟩)))))

theorem D_ref_SameInts_b1_ok {pg : Prg} {gh : List GObj} {v0 : PV} {v1 : PV} {x5 : Int} {e : IExit} {s : St} (h : D_ref_SameInts_b1 pg v0 v1 x5 gh = some (e, s)) : runL pg f_ref_SameInts_b1 ⟨[(0, v0), (1, v1), (5, (.int .i64 x5))], [], gh⟩ = some (e, s) :=
  runX_ok an_ref_SameInts (Eq.trans (by kernel_rfl) h)

noncomputable def D_ref_SameInts_k1 (pg : Prg)  (gh : List GObj) : Option (IExit × St) := some (.ret, ⟨[(4, (.bool true))], [], gh⟩)

theorem D_ref_SameInts_k1_ok {pg : Prg} {gh : List GObj}  {e : IExit} {s : St} (h : D_ref_SameInts_k1 pg  gh = some (e, s)) : runL pg f_ref_SameInts_k1 ⟨[], [], gh⟩ = some (e, s) :=
  runX_ok an_ref_SameInts (Eq.trans (by kernel_rfl) h)

noncomputable def D_ref_SameInts_0 (pg : Prg) (v0 : PV) (v1 : PV) (gh : List GObj) : Option (IExit × St) := stK 0 v0 (stK 0 v1 (isC (degr v0) (lenS (degr (degr v0)) fun n1 => isC (degr v1) (lenS (degr (degr v1)) fun n2 => stK 0 v0 (stK 0 v1 (
  br 10 ((n1 : Int) != (n2 : Int)) (some (.ret, ⟨[(4, (.bool false))], [], gh⟩)) (stK 0 v0 (stK 0 v1 (
  kR (runL pg f_ref_SameInts_l1 ⟨[(0, v0), (1, v1), (5, (.int .i64 0))], [], gh⟩) (fun e s => nx e s (fun e s => some (e, s)) fun s => kR (runL pg f_ref_SameInts_k1 s) (fun e s => some (e, s))))))))))))

theorem D_ref_SameInts_0_ok {pg : Prg} {gh : List GObj} {v0 : PV} {v1 : PV} {e : IExit} {s : St} (h : D_ref_SameInts_0 pg v0 v1 gh = some (e, s)) : runL pg f_ref_SameInts_0 ⟨[(0, v0), (1, v1)], [], gh⟩ = some (e, s) :=
  runX_ok an_ref_SameInts (Eq.trans (by kernel_rfl) h)

end Go.Lw
end

/-! Clauses: what the document makes and checks. -/
section
namespace Go.Lw
open Go

section
variable {ins : Int} {ands : List (Int × Int)} {gh : List GObj}

/-! the same -/
theorem SameInts_loop {v : List Int} (hs : Sz v.length) : ∀ k i, i + k = v.length →
    runL pg f_ref_SameInts_l1 ⟨[(0, LI v), (1, LI v), (5, I (i : Int))], [], gh⟩ = some (.normal, ⟨[], [], gh⟩)
  | 0, i, h => by
    have hlt : ¬ i < v.length := by omega
    refine (lp_exit (s1 := ?s1) (D_ref_SameInts_b1_ok ?h1)).trans ?r1
    case h1 => simp [D_ref_SameInts_b1, hlt]; rfl
    case r1 => simp [keep]
  | k + 1, i, h => by
    have hlt : i < v.length := by omega
    have e3 : IntKind.i64.wrap ((i : Int) + 1) = ((i + 1 : Nat) : Int) := wrap_nat (by simp only [Sz] at hs ⊢; omega)
    refine lp_next (s1 := ⟨[(0, LI v), (1, LI v), (5, I ((i + 1 : Nat) : Int))], [], gh⟩) (D_ref_SameInts_b1_ok ?h2) (SameInts_loop hs k (i + 1) (by omega))
    case h2 => simp [D_ref_SameInts_b1, hlt, e3]

theorem SameInts_refl {v : List Int} (hs : Sz v.length) : callL pg 46 [LI v, LI v] gh = some (B true, gh) := by
  have h := SameInts_loop (gh := gh) hs v.length 0 (by omega)
  simp only [Int.natCast_zero] at h
  have hk := D_ref_SameInts_k1_ok (pg := pg) (gh := gh) (e := .ret) (s := ⟨[(4, B true)], [], gh⟩) rfl
  refine callL_fn (fn := f_ref_SameInts) (s := ?s1) rfl rfl (D_ref_SameInts_0_ok ?h1) ?r1
  case h1 => simp [D_ref_SameInts_0, h, hk]; rfl
  case r1 => simp [finish, results, f_ref_SameInts, resOfs, resOf, resOk]

end
end Go.Lw
end

/-! What the code of function law_toggle comes to, piece by piece. Written by program (dprint.py). -/
section
set_option maxRecDepth 10000
set_option maxHeartbeats 4000000
namespace Go.Lw
open Go

def an_law_toggle : Tr := (.node 6 (.ce (.one)) (.node 3 (.agg [.int .i64, .int .i64, .int .i64, .int .i64, .int .i64, .int .i64]) (.node 2 (.agg [.int .i64, .int .i64, .int .i64, .int .i64, .int .i64, .int .i64]) (.node 1 (.agg [.int .i64, .int .i64, .int .i64, .int .i64, .int .i64, .int .i64]) .nil .nil) .nil) (.node 5 (.agg [.int .i64, .int .i64]) (.node 4 (.ce (.one)) .nil .nil) .nil)) (.node 9 (.ce (.one)) (.node 8 (.ce (.one)) (.node 7 (.agg [.int .i64, .int .i64]) .nil .nil) .nil) (.node 10 (.agg [.any, .any, .any, .any, .any]) .nil .nil)))

noncomputable def D_law_toggle_0 (pg : Prg)  (gh : List GObj) : Option (IExit × St) := some (.ret, ⟨[(0, (.ptr false 0 0))], [[(.sl true 6 [(.agg [(.int .i64 1), (.int .i64 1), (.int .i64 0), (.int .i64 0), (.int .i64 0), (.int .i64 0)]), (.agg [(.int .i64 3), (.int .i64 1), (.int .i64 0), (.int .i64 0), (.int .i64 0), (.int .i64 0)]), (.agg [(.int .i64 4), (.int .i64 1), (.int .i64 1), (.int .i64 0), (.int .i64 0), (.int .i64 0)])]), (.sl true 2 [(.agg [(.int .i64 1), (.int .i64 0)])]), (.sl true 2 [(.agg [(.int .i64 1), (.int .i64 2)])]), (.sl true 1 [(.int .i64 1)]), (.sl true 1 [])]], gh⟩)

theorem D_law_toggle_0_ok {pg : Prg} {gh : List GObj}  {e : IExit} {s : St} (h : D_law_toggle_0 pg  gh = some (e, s)) : runL pg f_law_toggle_0 ⟨[], [], gh⟩ = some (e, s) :=
  runX_ok an_law_toggle (Eq.trans (by kernel_rfl) h)

end Go.Lw
end

/-! What the code of function law_modelBegun comes to, piece by piece. Written by program (dprint.py). -/
section
set_option maxRecDepth 10000
set_option maxHeartbeats 4000000
namespace Go.Lw
open Go

def an_law_modelBegun : Tr := (.node 12 (.ce (.int .i64)) (.node 6 (.ce (.one)) (.node 3 (.tup 2) (.node 1 (.ce (.one)) (.node 0 (.ce (.bool)) .nil .nil) (.node 2 (.ce (.int .i64)) .nil .nil)) (.node 5 (.tup 2) (.node 4 (.agg [.any, .any, .any, .any, .any]) .nil .nil) .nil)) (.node 9 (.ce (.int .i64)) (.node 8 (.agg [.any, .any, .any, .any, .any]) (.node 7 (.ce (.int .i64)) .nil .nil) .nil) (.node 11 (.ce (.bool)) (.node 10 (.ce (.bool)) .nil .nil) .nil))) (.node 19 (.ce (.bool)) (.node 16 (.ce (.one)) (.node 14 (.ce (.bool)) (.node 13 (.ce (.bool)) .nil .nil) (.node 15 (.ce (.bool)) .nil .nil)) (.node 18 (.ce (.bool)) (.node 17 (.ce (.int .i64)) .nil .nil) .nil)) (.node 23 (.ce (.int .i64)) (.node 21 (.ce (.one)) (.node 20 (.ce (.bool)) .nil .nil) .nil) (.node 25 (.ce (.bool)) (.node 24 (.ce (.bool)) .nil .nil) .nil))))

noncomputable def D_law_modelBegun_0 (pg : Prg)  (gh : List GObj) : Option (IExit × St) := 
  callR gh true (callL pg 75 [] gh) fun r1 gh2 => unA 5 r1 fun c3 c4 c5 c6 c7 => onK (degr1 c3) (onK (degr1 c4) (onK (degr1 c5) (onK (degr1 c6) (onK (degr1 c7) (
  callR gh2 true (callL pg 35 [(.agg [(degr1 c3), (degr1 c4), (degr1 c5), (degr1 c6), (degr1 c7)])] gh2) fun r8 gh9 => unT 2 r8 fun r10 r11 => isC (degr1 (degr1 r10)) (unI .i64 (degr1 (degr1 r11)) fun n12 => stK 0 (degr1 (degr1 r10)) (
  callR gh9 true (callL pg 75 [] gh9) fun r13 gh14 => unA 5 r13 fun c15 c16 c17 c18 c19 => onK (degr1 c15) (onK (degr1 c16) (onK (degr1 c17) (onK (degr1 c18) (onK (degr1 c19) (
  callR gh14 true (callL pg 38 [(.agg [(degr1 c15), (degr1 c16), (degr1 c17), (degr1 c18), (degr1 c19)])] gh14) fun r20 gh21 => unI .i64 r20 fun n22 => 
  br 11 (n22 == 0) (
  br 15 (n12 == 0) (isC (degr (degr1 (degr1 r10))) (lenS (degr (degr (degr1 (degr1 r10)))) fun n23 => 
  br 20 ((n23 : Int) == 1) (isC (degr (degr1 (degr1 r10))) (
  idX 1 none (degr (degr (degr1 (degr1 r10)))) 0 fun p24 => 
  ldX [] gh21 false 1 (degr p24) fun v25 => unI .i64 v25 fun n26 => some (.ret, ⟨[(0, (.bool (n26 == 1)))], [], gh21⟩))) (some (.ret, ⟨[(0, (.bool false))], [], gh21⟩)))) (some (.ret, ⟨[(0, (.bool false))], [], gh21⟩))) (some (.ret, ⟨[(0, (.bool false))], [], gh21⟩))))))))))))))

theorem D_law_modelBegun_0_ok {pg : Prg} {gh : List GObj}  {e : IExit} {s : St} (h : D_law_modelBegun_0 pg  gh = some (e, s)) : runL pg f_law_modelBegun_0 ⟨[], [], gh⟩ = some (e, s) :=
  runX_ok an_law_modelBegun (Eq.trans (by kernel_rfl) h)

end Go.Lw
end

/-! What the code of function law_listIs comes to, piece by piece. Written by program (dprint.py). -/
section
set_option maxRecDepth 10000
set_option maxHeartbeats 4000000
namespace Go.Lw
open Go

def an_law_listIs : Tr := (.node 11 (.ce (.int .i64)) (.node 3 (.ce (.one)) (.node 1 (.ce (.int .i64)) (.node 0 (.ce (.one)) .nil .nil) (.node 2 (.ce (.int .i64)) .nil .nil)) (.node 9 (.ce (.int .i64)) (.node 8 (.ce (.bool)) .nil .nil) (.node 10 (.ce (.bool)) .nil .nil))) (.node 15 (.ce (.one)) (.node 13 (.ce (.bool)) (.node 12 (.ce (.int .i64)) .nil .nil) (.node 14 (.ce (.bool)) .nil .nil)) (.node 17 (.ce (.bool)) (.node 16 (.ce (.one)) .nil .nil) (.node 18 (.ce (.bool)) .nil .nil))))

noncomputable def D_law_listIs_k1 (pg : Prg) (v0 : PV) (x1 : Int) (x2 : Int) (v3 : PV) (gh : List GObj) : Option (IExit × St) := 
  br 14 (x1 == x2) (isC (degr v0) (isC (degr v3) (arK (degr (degr v0)) (arK (degr (degr v3)) (
  callR gh true (callL pg 46 [(degr (degr v0)), (degr (degr v3))] gh) fun r1 gh2 => unB r1 fun b3 => some (.ret, ⟨[(8, (.bool b3))], [], gh2⟩)))))) (some (.ret, ⟨[(8, (.bool false))], [], gh⟩))

theorem D_law_listIs_k1_ok {pg : Prg} {gh : List GObj} {v0 : PV} {x1 : Int} {x2 : Int} {v3 : PV} {e : IExit} {s : St} (h : D_law_listIs_k1 pg v0 x1 x2 v3 gh = some (e, s)) : runL pg f_law_listIs_k1 ⟨[(0, v0), (1, (.int .i64 x1)), (2, (.int .i64 x2)), (3, v3)], [], gh⟩ = some (e, s) :=
  runX_ok an_law_listIs (Eq.trans (by kernel_rfl) h)

noncomputable def D_law_listIs_0 (pg : Prg) (v0 : PV) (x1 : Int) (x2 : Int) (v3 : PV) (gh : List GObj) : Option (IExit × St) := stK 0 v0 (stK 0 v3 (stK 0 v0 (stK 0 v3 (
  br 10 (x2 != 0) (stK 0 v0 (stK 0 v0 (
  kR (runL pg f_law_listIs_k1 ⟨[(0, v0), (1, (.int .i64 x1)), (2, (.int .i64 x2)), (3, (.sl true 1 []))], [], gh⟩) (fun e s => some (e, s))))) (stK 0 v0 (stK 0 v3 (
  kR (runL pg f_law_listIs_k1 ⟨[(0, v0), (1, (.int .i64 x1)), (2, (.int .i64 x2)), (3, v3)], [], gh⟩) (fun e s => some (e, s)))))))))

theorem D_law_listIs_0_ok {pg : Prg} {gh : List GObj} {v0 : PV} {x1 : Int} {x2 : Int} {v3 : PV} {e : IExit} {s : St} (h : D_law_listIs_0 pg v0 x1 x2 v3 gh = some (e, s)) : runL pg f_law_listIs_0 ⟨[(0, v0), (1, (.int .i64 x1)), (2, (.int .i64 x2)), (3, v3)], [], gh⟩ = some (e, s) :=
  runX_ok an_law_listIs (Eq.trans (by kernel_rfl) h)

end Go.Lw
end

/-! What the code of function model_Cone comes to, piece by piece. Written by program (dprint.py). -/
section
set_option maxRecDepth 10000
set_option maxHeartbeats 4000000
namespace Go.Lw
open Go

def an_model_Cone : Tr := (.node 64 (.ce (.int .i64)) (.node 31 (.ce (.int .i64)) (.node 17 (.agg [.any, .any, .any, .any, .any]) (.node 8 (.ce (.int .i64)) (.node 5 (.ce (.int .i64)) (.node 1 (.ce (.one)) (.node 0 (.agg [.any, .any, .any, .any, .any]) .nil .nil) (.node 4 (.ce (.one)) .nil .nil)) (.node 7 (.ce (.one)) (.node 6 (.ce (.int .i64)) .nil .nil) .nil)) (.node 14 (.ce (.int .i64)) (.node 13 (.ce (.one)) (.node 12 (.ce (.one)) .nil .nil) .nil) (.node 16 (.ce (.int .i64)) (.node 15 (.ce (.one)) .nil .nil) .nil))) (.node 24 (.ce (.int .i64)) (.node 20 (.ce (.bool)) (.node 19 (.ce (.int .i64)) (.node 18 (.ce (.int .i64)) .nil .nil) .nil) (.node 23 (.ce (.one)) (.node 21 (.ce (.int .i64)) .nil .nil) .nil)) (.node 28 (.ce (.int .i64)) (.node 27 (.ce (.one)) (.node 25 (.ce (.one)) .nil .nil) .nil) (.node 30 (.ce (.bool)) (.node 29 (.ce (.int .i64)) .nil .nil) .nil)))) (.node 47 (.ce (.int .i64)) (.node 39 (.ce (.int .i64)) (.node 36 (.agg [.int .i64, .int .i64, .int .i64, .int .i64, .int .i64, .int .i64]) (.node 34 (.ce (.one)) (.node 33 (.agg [.int .i64, .int .i64, .int .i64, .int .i64, .int .i64, .int .i64]) .nil .nil) (.node 35 (.ce (.int .i64)) .nil .nil)) (.node 38 (.ce (.gp)) (.node 37 (.ce (.one)) .nil .nil) .nil)) (.node 44 (.ce (.one)) (.node 43 (.ce (.one)) (.node 41 (.ce (.one)) .nil .nil) .nil) (.node 46 (.ce (.int .i64)) (.node 45 (.ce (.one)) .nil .nil) .nil))) (.node 56 (.ce (.int .i64)) (.node 51 (.ce (.one)) (.node 50 (.agg [.int .i64, .int .i64]) (.node 48 (.ce (.bool)) .nil .nil) .nil) (.node 54 (.ce (.one)) (.node 53 (.ce (.int .i64)) .nil .nil) .nil)) (.node 61 (.ce (.one)) (.node 60 (.ce (.int .i64)) (.node 58 (.ce (.one)) .nil .nil) .nil) (.node 63 (.ce (.gp)) (.node 62 (.ce (.one)) .nil .nil) .nil))))) (.node 91 (.ce (.one)) (.node 78 (.ce (.one)) (.node 71 (.ce (.one)) (.node 68 (.ce (.one)) (.node 66 (.ce (.one)) (.node 65 (.ce (.one)) .nil .nil) (.node 67 (.ce (.one)) .nil .nil)) (.node 70 (.ce (.bool)) (.node 69 (.ce (.int .i64)) .nil .nil) .nil)) (.node 74 (.ce (.int .i64)) (.node 73 (.ce (.int .i64)) (.node 72 (.ce (.one)) .nil .nil) .nil) (.node 77 (.ce (.one)) (.node 76 (.ce (.int .i64)) .nil .nil) .nil))) (.node 84 (.ce (.bool)) (.node 81 (.ce (.one)) (.node 80 (.ce (.int .i64)) (.node 79 (.ce (.int .i64)) .nil .nil) .nil) (.node 83 (.ce (.bool)) (.node 82 (.ce (.int .i64)) .nil .nil) .nil)) (.node 88 (.ce (.int .i64)) (.node 87 (.ce (.one)) (.node 85 (.ce (.int .i64)) .nil .nil) .nil) (.node 90 (.ce (.bool)) (.node 89 (.ce (.bool)) .nil .nil) .nil)))) (.node 106 (.ce (.int .i64)) (.node 98 (.ce (.one)) (.node 95 (.ce (.one)) (.node 93 (.ce (.bool)) (.node 92 (.ce (.int .i64)) .nil .nil) (.node 94 (.ce (.bool)) .nil .nil)) (.node 97 (.ce (.one)) (.node 96 (.ce (.int .i64)) .nil .nil) .nil)) (.node 102 (.ce (.one)) (.node 101 (.ce (.one)) (.node 99 (.ce (.int .i64)) .nil .nil) .nil) (.node 105 (.ce (.int .i64)) (.node 104 (.ce (.one)) .nil .nil) .nil))) (.node 112 (.ce (.one)) (.node 109 (.ce (.one)) (.node 108 (.ce (.int .i64)) (.node 107 (.ce (.bool)) .nil .nil) .nil) (.node 111 (.ce (.bool)) (.node 110 (.ce (.int .i64)) .nil .nil) .nil)) (.node 115 (.ce (.one)) (.node 114 (.ce (.one)) (.node 113 (.ce (.int .i64)) .nil .nil) .nil) (.node 117 (.ce (.one)) (.node 116 (.ce (.int .i64)) .nil .nil) .nil))))))

noncomputable def D_model_Cone_b1 (pg : Prg) (v1 : PV) (v7 : PV) (v27 : PV) (x28 : Int) (x29 : Int) (vc0_0 : PV) (vc0_1 : PV) (vc0_2 : PV) (vc0_3 : PV) (vc0_4 : PV) (gh : List GObj) : Option (IExit × St) := 
  br 30 (decide (x29 < x28)) (
  idX 6 none (degr v27) x29 fun p1 => 
  ldX [[vc0_0, vc0_1, vc0_2, vc0_3, vc0_4]] gh true 6 (degr p1) fun v2 => unA 6 v2 fun c3 c4 c5 c6 c7 c8 => unI .i64 c3 fun n9 => unI .i64 c4 fun n10 => unI .i64 c5 fun n11 => unI .i64 c6 fun n12 => unI .i64 c7 fun n13 => unI .i64 c8 fun n14 => stK 2 v1 (stK 2 v7 (stK 2 v27 (isC (degr v7) (
  callR gh false (callL pg 120 [(.agg [(.int .i64 n9), (.int .i64 n10), (.int .i64 n11), (.int .i64 n12), (.int .i64 n13), (.int .i64 n14)])] gh) fun r15 gh16 => isC r15 (
  idX 1 none (degr (degr v7)) x29 fun p17 => unG p17 fun g18 o19 => arK r15 (isC r15 (
  ob (ghCells gh16 g18) fun cs20 => gb (stOk 1 o19 [r15] cs20) (stK 1 v1 (stK 1 v7 (stK 1 v27 (stK 1 v1 (stK 1 v7 (stK 1 v27 (stK 1 v1 (stK 1 v7 (stK 1 v27 (some (.normal, ⟨[(1, v1), (2, (.ptr false 0 0)), (7, v7), (27, v27), (28, (.int .i64 x28)), (29, (.int .i64 (IntKind.i64.wrap (x29 + 1))))], [[vc0_0, vc0_1, vc0_2, vc0_3, vc0_4]], (List.set gh16 g18 (.cells (spliceAt cs20 o19 [r15])))⟩))))))))))))))))))) (some ((.exit 0), ⟨[(1, v1), (2, (.ptr false 0 0)), (7, v7), (27, v27), (28, (.int .i64 x28)), (29, (.int .i64 x29)), (30, (.bool (decide (x29 < x28))))], [[vc0_0, vc0_1, vc0_2, vc0_3, vc0_4]], gh⟩))

theorem D_model_Cone_b1_ok {pg : Prg} {gh : List GObj} {v1 : PV} {v7 : PV} {v27 : PV} {x28 : Int} {x29 : Int} {vc0_0 : PV} {vc0_1 : PV} {vc0_2 : PV} {vc0_3 : PV} {vc0_4 : PV} {e : IExit} {s : St} (h : D_model_Cone_b1 pg v1 v7 v27 x28 x29 vc0_0 vc0_1 vc0_2 vc0_3 vc0_4 gh = some (e, s)) : runL pg f_model_Cone_b1 ⟨[(1, v1), (2, (.ptr false 0 0)), (7, v7), (27, v27), (28, (.int .i64 x28)), (29, (.int .i64 x29))], [[vc0_0, vc0_1, vc0_2, vc0_3, vc0_4]], gh⟩ = some (e, s) :=
  runX_ok an_model_Cone (Eq.trans (by kernel_rfl) h)

noncomputable def D_model_Cone_b2 (pg : Prg) (v1 : PV) (v7 : PV) (v45 : PV) (x46 : Int) (x47 : Int) (vc0_0 : PV) (vc0_1 : PV) (vc0_2 : PV) (vc0_3 : PV) (vc0_4 : PV) (gh : List GObj) : Option (IExit × St) := 
  br 48 (decide (x47 < x46)) (
  idX 2 none (degr v45) x47 fun p1 => 
  ldX [[vc0_0, vc0_1, vc0_2, vc0_3, vc0_4]] gh true 2 (degr p1) fun v2 => unA 2 v2 fun c3 c4 => unI .i64 c3 fun n5 => unI .i64 c4 fun n6 => stK 2 v1 (stK 2 v7 (stK 2 v45 (isC (degr v7) (isC (degr v7) (
  idX 1 none (degr (degr v7)) n5 fun p7 => 
  ldX [[vc0_0, vc0_1, vc0_2, vc0_3, vc0_4], [(.int .i64 n5), (.int .i64 n6)]] gh false 1 (degr p7) fun v8 => isC v8 (
  akX gh 8 (degr v8) (.sl false 1 [(.int .i64 n6)]) fun gh9 v10 => isC v10 (
  idX 1 none (degr (degr v7)) n5 fun p11 => unG p11 fun g12 o13 => arK v10 (isC v10 (
  ob (ghCells gh9 g12) fun cs14 => gb (stOk 1 o13 [v10] cs14) (stK 1 v1 (stK 1 v7 (stK 1 v45 (stK 1 v1 (stK 1 v7 (stK 1 v45 (stK 1 v1 (stK 1 v7 (stK 1 v45 (some (.normal, ⟨[(1, v1), (2, (.ptr false 0 0)), (7, v7), (45, v45), (46, (.int .i64 x46)), (47, (.int .i64 (IntKind.i64.wrap (x47 + 1))))], [[vc0_0, vc0_1, vc0_2, vc0_3, vc0_4]], (List.set gh9 g12 (.cells (spliceAt cs14 o13 [v10])))⟩))))))))))))))))))))) (some ((.exit 2), ⟨[(1, v1), (2, (.ptr false 0 0)), (7, v7), (45, v45), (46, (.int .i64 x46)), (47, (.int .i64 x47)), (48, (.bool (decide (x47 < x46))))], [[vc0_0, vc0_1, vc0_2, vc0_3, vc0_4]], gh⟩))

theorem D_model_Cone_b2_ok {pg : Prg} {gh : List GObj} {v1 : PV} {v7 : PV} {v45 : PV} {x46 : Int} {x47 : Int} {vc0_0 : PV} {vc0_1 : PV} {vc0_2 : PV} {vc0_3 : PV} {vc0_4 : PV} {e : IExit} {s : St} (h : D_model_Cone_b2 pg v1 v7 v45 x46 x47 vc0_0 vc0_1 vc0_2 vc0_3 vc0_4 gh = some (e, s)) : runL pg f_model_Cone_b2 ⟨[(1, v1), (2, (.ptr false 0 0)), (7, v7), (45, v45), (46, (.int .i64 x46)), (47, (.int .i64 x47))], [[vc0_0, vc0_1, vc0_2, vc0_3, vc0_4]], gh⟩ = some (e, s) :=
  runX_ok an_model_Cone (Eq.trans (by kernel_rfl) h)

noncomputable def D_model_Cone_b3 (pg : Prg) (v7 : PV) (v12 : PV) (v13 : PV) (vc0_0 : PV) (vc0_1 : PV) (vc0_2 : PV) (vc0_3 : PV) (vc0_4 : PV) (gh : List GObj) : Option (IExit × St) := isC (degr v13) (lenS (degr (degr v13)) fun n1 => stK 1 v7 (stK 1 v12 (stK 1 v13 (
  br 70 (decide (0 < (n1 : Int))) (isC (degr v13) (isC (degr v13) (lenS (degr (degr v13)) fun n2 => 
  idX 1 none (degr (degr v13)) (IntKind.i64.wrap ((n2 : Int) - 1)) fun p3 => 
  lkK gh (degr p3) fun v4 => unI .i64 v4 fun n5 => stK 1 v7 (stK 1 v12 (stK 1 v13 (isC (degr v13) (isC (degr v13) (lenS (degr (degr v13)) fun n6 => 
  slX 1 (degr (degr v13)) none (some (IntKind.i64.wrap ((n6 : Int) - 1))) fun v8 => isC v8 (stK 1 v7 (stK 1 v12 (stK 1 v8 (
  br 84 (decide (n5 < 0)) (stK 1 v7 (stK 1 v12 (stK 1 v8 (some (.ret, ⟨[(4, (.sl true 1 [])), (5, (.int .i64 5))], [], gh⟩))))) (isC (degr vc0_0) (lenS (degr (degr vc0_0)) fun n9 => stK 1 v7 (stK 1 v12 (stK 1 v8 (
  br 90 (decide ((n9 : Int) ≤ n5)) (some (.ret, ⟨[(4, (.sl true 1 [])), (5, (.int .i64 5))], [], gh⟩)) (isC (degr v12) (
  lkX gh 0 (degr (degr v12)) (.int .i64 n5) fun r10 => unB (Option.getD r10 (.bool false)) fun b11 => stK 1 v7 (stK 1 v12 (stK 1 v8 (
  br 94 (!b11) (isC (degr v12) (
  muX gh 0 (degr (degr v12)) (.int .i64 n5) (.bool true) fun gh12 => stK 1 v7 (stK 1 v12 (stK 1 v8 (isC (degr v8) (isC (degr v7) (
  idX 1 none (degr (degr v7)) n5 fun p13 => 
  ldX [[vc0_0, vc0_1, vc0_2, vc0_3, vc0_4]] gh12 false 1 (degr p13) fun v14 => isC v14 (
  akX gh12 8 (degr (degr v8)) (degr v14) fun gh15 v16 => isC v16 (stK 1 v7 (stK 1 v12 (stK 1 v16 (stK 1 v7 (stK 1 v12 (stK 1 v16 (stK 1 v7 (stK 1 v12 (stK 1 v16 (some (.normal, ⟨[(2, (.ptr false 0 0)), (7, v7), (12, v12), (13, v16)], [[vc0_0, vc0_1, vc0_2, vc0_3, vc0_4]], gh15⟩))))))))))))))))))) (stK 1 v7 (stK 1 v12 (stK 1 v8 (stK 1 v7 (stK 1 v12 (stK 1 v8 (some (.normal, ⟨[(2, (.ptr false 0 0)), (7, v7), (12, v12), (13, v8)], [[vc0_0, vc0_1, vc0_2, vc0_3, vc0_4]], gh⟩)))))))))))))))))))))))))))))) (some ((.exit 4), ⟨[(2, (.ptr false 0 0)), (7, v7), (12, v12), (13, v13), (70, (.bool (decide (0 < (n1 : Int)))))], [[vc0_0, vc0_1, vc0_2, vc0_3, vc0_4]], gh⟩))))))

theorem D_model_Cone_b3_ok {pg : Prg} {gh : List GObj} {v7 : PV} {v12 : PV} {v13 : PV} {vc0_0 : PV} {vc0_1 : PV} {vc0_2 : PV} {vc0_3 : PV} {vc0_4 : PV} {e : IExit} {s : St} (h : D_model_Cone_b3 pg v7 v12 v13 vc0_0 vc0_1 vc0_2 vc0_3 vc0_4 gh = some (e, s)) : runL pg f_model_Cone_b3 ⟨[(2, (.ptr false 0 0)), (7, v7), (12, v12), (13, v13)], [[vc0_0, vc0_1, vc0_2, vc0_3, vc0_4]], gh⟩ = some (e, s) :=
  runX_ok an_model_Cone (Eq.trans (by kernel_rfl) h)

noncomputable def D_model_Cone_k4 (pg : Prg) (v12 : PV) (v15 : PV) (x105 : Int) (x106 : Int) (gh : List GObj) : Option (IExit × St) := stK 0 v12 (stK 0 v15 (some (.normal, ⟨[(12, v12), (15, v15), (105, (.int .i64 x105)), (106, (.int .i64 (IntKind.i64.wrap (x106 + 1))))], [], gh⟩)))

theorem D_model_Cone_k4_ok {pg : Prg} {gh : List GObj} {v12 : PV} {v15 : PV} {x105 : Int} {x106 : Int} {e : IExit} {s : St} (h : D_model_Cone_k4 pg v12 v15 x105 x106 gh = some (e, s)) : runL pg f_model_Cone_k4 ⟨[(12, v12), (15, v15), (105, (.int .i64 x105)), (106, (.int .i64 x106))], [], gh⟩ = some (e, s) :=
  runX_ok an_model_Cone (Eq.trans (by kernel_rfl) h)

noncomputable def D_model_Cone_b4 (pg : Prg) (v12 : PV) (v15 : PV) (x105 : Int) (x106 : Int) (gh : List GObj) : Option (IExit × St) := 
  br 107 (decide (x106 < x105)) (stK 0 v12 (stK 0 v15 (isC (degr v12) (
  lkX gh 0 (degr (degr v12)) (.int .i64 x106) fun r1 => unB (Option.getD r1 (.bool false)) fun b2 => stK 0 v12 (stK 0 v15 (
  br 111 b2 (
  apX 1 8 v15 (.sl false 1 [(.int .i64 x106)]) fun l3 => stK 0 v12 (stK 0 v12 (
  kR (runL pg f_model_Cone_k4 ⟨[(12, v12), (15, (.sl true 1 l3)), (105, (.int .i64 x105)), (106, (.int .i64 x106))], [], gh⟩) (fun e s => po [12, 15, 105, 106] 0 e s (fun e s => some (e, s)))))) (stK 0 v12 (stK 0 v15 (
  kR (runL pg f_model_Cone_k4 ⟨[(12, v12), (15, v15), (105, (.int .i64 x105)), (106, (.int .i64 x106))], [], gh⟩) (fun e s => po [12, 15, 105, 106] 0 e s (fun e s => some (e, s)))))))))))) (some ((.exit 6), ⟨[(12, v12), (15, v15), (105, (.int .i64 x105)), (106, (.int .i64 x106)), (107, (.bool (decide (x106 < x105))))], [], gh⟩))

theorem D_model_Cone_b4_ok {pg : Prg} {gh : List GObj} {v12 : PV} {v15 : PV} {x105 : Int} {x106 : Int} {e : IExit} {s : St} (h : D_model_Cone_b4 pg v12 v15 x105 x106 gh = some (e, s)) : runL pg f_model_Cone_b4 ⟨[(12, v12), (15, v15), (105, (.int .i64 x105)), (106, (.int .i64 x106))], [], gh⟩ = some (e, s) :=
  runX_ok an_model_Cone (Eq.trans (by kernel_rfl) h)

noncomputable def D_model_Cone_k5 (pg : Prg) (v15 : PV) (gh : List GObj) : Option (IExit × St) := isC (degr v15) (stK 0 (degr v15) (some (.ret, ⟨[(4, (degr v15)), (5, (.int .i64 0))], [], gh⟩)))

theorem D_model_Cone_k5_ok {pg : Prg} {gh : List GObj} {v15 : PV} {e : IExit} {s : St} (h : D_model_Cone_k5 pg v15 gh = some (e, s)) : runL pg f_model_Cone_k5 ⟨[(15, v15)], [], gh⟩ = some (e, s) :=
  runX_ok an_model_Cone (Eq.trans (by kernel_rfl) h)

noncomputable def D_model_Cone_k3 (pg : Prg) (v12 : PV) (vc0_0 : PV) (vc0_1 : PV) (vc0_2 : PV) (vc0_3 : PV) (vc0_4 : PV) (gh : List GObj) : Option (IExit × St) := isC (degr vc0_0) (lenS (degr (degr vc0_0)) fun n1 => stK 0 v12 (
  kR (runL pg f_model_Cone_l4 ⟨[(12, v12), (15, (.sl true 1 [])), (105, (.int .i64 (n1 : Int))), (106, (.int .i64 0))], [], gh⟩) (fun e s => nx e s (fun e s => some (e, s)) fun s => kR (runL pg f_model_Cone_k5 s) (fun e s => some (e, s)))))

theorem D_model_Cone_k3_ok {pg : Prg} {gh : List GObj} {v12 : PV} {vc0_0 : PV} {vc0_1 : PV} {vc0_2 : PV} {vc0_3 : PV} {vc0_4 : PV} {e : IExit} {s : St} (h : D_model_Cone_k3 pg v12 vc0_0 vc0_1 vc0_2 vc0_3 vc0_4 gh = some (e, s)) : runL pg f_model_Cone_k3 ⟨[(2, (.ptr false 0 0)), (12, v12)], [[vc0_0, vc0_1, vc0_2, vc0_3, vc0_4]], gh⟩ = some (e, s) :=
  runX_ok an_model_Cone (Eq.trans (by kernel_rfl) h)

noncomputable def D_model_Cone_k2 (pg : Prg) (v1 : PV) (v7 : PV) (vc0_0 : PV) (vc0_1 : PV) (vc0_2 : PV) (vc0_3 : PV) (vc0_4 : PV) (gh : List GObj) : Option (IExit × St) := stK 1 v1 (stK 1 v7 (isC (degr v1) (arK (degr (degr v1)) (
  callR (gh ++ [.map []]) false (callL pg 121 [(degr (degr v1))] (gh ++ [.map []])) fun r1 gh2 => isC r1 (stK 1 v7 (stK 1 r1 (
  kR (runL pg f_model_Cone_l3 ⟨[(2, (.ptr false 0 0)), (7, v7), (12, (.mp (List.length gh))), (13, r1)], [[vc0_0, vc0_1, vc0_2, vc0_3, vc0_4]], gh2⟩) (fun e s => nx e s (fun e s => some (e, s)) fun s => kR (runL pg f_model_Cone_k3 s) (fun e s => some (e, s))))))))))

theorem D_model_Cone_k2_ok {pg : Prg} {gh : List GObj} {v1 : PV} {v7 : PV} {vc0_0 : PV} {vc0_1 : PV} {vc0_2 : PV} {vc0_3 : PV} {vc0_4 : PV} {e : IExit} {s : St} (h : D_model_Cone_k2 pg v1 v7 vc0_0 vc0_1 vc0_2 vc0_3 vc0_4 gh = some (e, s)) : runL pg f_model_Cone_k2 ⟨[(1, v1), (2, (.ptr false 0 0)), (7, v7)], [[vc0_0, vc0_1, vc0_2, vc0_3, vc0_4]], gh⟩ = some (e, s) :=
  runX_ok an_model_Cone (Eq.trans (by kernel_rfl) h)

noncomputable def D_model_Cone_k1 (pg : Prg) (v1 : PV) (v7 : PV) (vc0_0 : PV) (vc0_1 : PV) (vc0_2 : PV) (vc0_3 : PV) (vc0_4 : PV) (gh : List GObj) : Option (IExit × St) := isC (degr vc0_1) (isC (degr vc0_2) (arK (degr (degr vc0_1)) (lnK 1 (degr (degr vc0_1)) (arK (degr (degr vc0_2)) (lnK 1 (degr (degr vc0_2)) (
  callR gh true (callL pg 82 [(.sl false 1 [(degr (degr vc0_1)), (degr (degr vc0_2))])] gh) fun r1 gh2 => isC r1 (lenS (degr r1) fun n3 => stK 1 v1 (stK 1 v7 (stK 1 r1 (
  kR (runL pg f_model_Cone_l2 ⟨[(1, v1), (2, (.ptr false 0 0)), (7, v7), (45, r1), (46, (.int .i64 (n3 : Int))), (47, (.int .i64 0))], [[vc0_0, vc0_1, vc0_2, vc0_3, vc0_4]], gh2⟩) (fun e s => nx e s (fun e s => some (e, s)) fun s => kR (runL pg f_model_Cone_k2 s) (fun e s => some (e, s)))))))))))))

theorem D_model_Cone_k1_ok {pg : Prg} {gh : List GObj} {v1 : PV} {v7 : PV} {vc0_0 : PV} {vc0_1 : PV} {vc0_2 : PV} {vc0_3 : PV} {vc0_4 : PV} {e : IExit} {s : St} (h : D_model_Cone_k1 pg v1 v7 vc0_0 vc0_1 vc0_2 vc0_3 vc0_4 gh = some (e, s)) : runL pg f_model_Cone_k1 ⟨[(1, v1), (2, (.ptr false 0 0)), (7, v7)], [[vc0_0, vc0_1, vc0_2, vc0_3, vc0_4]], gh⟩ = some (e, s) :=
  runX_ok an_model_Cone (Eq.trans (by kernel_rfl) h)

noncomputable def D_model_Cone_0 (pg : Prg) (v0_0 : PV) (v0_1 : PV) (v0_2 : PV) (v0_3 : PV) (v0_4 : PV) (v1 : PV) (gh : List GObj) : Option (IExit × St) := onK (degr1 v0_0) (onK (degr1 v0_1) (onK (degr1 v0_2) (onK (degr1 v0_3) (onK (degr1 v0_4) (stK 1 v1 (onK (degr1 (degr1 (degr1 v0_0))) (onK (degr1 (degr1 (degr1 v0_1))) (onK (degr1 (degr1 (degr1 v0_2))) (onK (degr1 (degr1 (degr1 v0_3))) (onK (degr1 (degr1 (degr1 v0_4))) (
  callR gh true (callL pg 38 [(.agg [(degr1 (degr1 (degr1 v0_0))), (degr1 (degr1 (degr1 v0_1))), (degr1 (degr1 (degr1 v0_2))), (degr1 (degr1 (degr1 v0_3))), (degr1 (degr1 (degr1 v0_4)))])] gh) fun r1 gh2 => unI .i64 r1 fun n3 => stK 1 v1 (stK 1 v1 (
  br 20 (n3 != 0) (some (.ret, ⟨[(4, (.sl true 1 [])), (5, (.int .i64 n3))], [], gh2⟩)) (isC (degr (degr1 v0_0)) (lenS (degr (degr (degr1 v0_0))) fun n4 => gd (mkOk (n4 : Int) 24 1 (.sl true 1 [])) (stK 1 v1 (isC (degr (degr1 v0_0)) (lenS (degr (degr (degr1 v0_0))) fun n5 => stK 1 v1 (stK 1 (degr (degr1 v0_0)) (
  kR (runL pg f_model_Cone_l1 ⟨[(1, v1), (2, (.ptr false 0 0)), (7, (.bs true (List.length gh2) 0 (Int.toNat (n4 : Int)) 1)), (27, (degr (degr1 v0_0))), (28, (.int .i64 (n5 : Int))), (29, (.int .i64 0))], [[(degr1 v0_0), (degr1 v0_1), (degr1 v0_2), (degr1 v0_3), (degr1 v0_4)]], (gh2 ++ [.cells (List.flatMap PV.cells (List.replicate (Int.toNat (n4 : Int)) (.sl true 1 [])))])⟩) (fun e s => nx e s (fun e s => some (e, s)) fun s => kR (runL pg f_model_Cone_k1 s) (fun e s => some (e, s)))))))))))))))))))))))

theorem D_model_Cone_0_ok {pg : Prg} {gh : List GObj} {v0_0 : PV} {v0_1 : PV} {v0_2 : PV} {v0_3 : PV} {v0_4 : PV} {v1 : PV} {e : IExit} {s : St} (h : D_model_Cone_0 pg v0_0 v0_1 v0_2 v0_3 v0_4 v1 gh = some (e, s)) : runL pg f_model_Cone_0 ⟨[(0, (.agg [v0_0, v0_1, v0_2, v0_3, v0_4])), (1, v1)], [], gh⟩ = some (e, s) :=
  runX_ok an_model_Cone (Eq.trans (by kernel_rfl) h)

end Go.Lw
end

/-! What the code of function model_Args_K comes to, piece by piece. Written by program (dprint.py). -/
section
set_option maxRecDepth 10000
set_option maxHeartbeats 4000000
namespace Go.Lw
open Go

def an_model_Args_K : Tr := (.node 8 (.ce (.int .i64)) (.node 4 (.ce (.int .i64)) (.node 2 (.ce (.one)) (.node 0 (.agg [.int .i64, .int .i64, .int .i64, .int .i64, .int .i64, .int .i64]) .nil .nil) .nil) (.node 6 (.ce (.int .i64)) .nil .nil)) (.node 12 (.ce (.int .i64)) (.node 11 (.ce (.int .i64)) (.node 9 (.ce (.one)) .nil .nil) .nil) (.node 13 (.ce (.one)) .nil .nil)))

noncomputable def D_model_Args_K_0 (pg : Prg) (x0_0 : Int) (x0_1 : Int) (x0_2 : Int) (x0_3 : Int) (x0_4 : Int) (x0_5 : Int) (gh : List GObj) : Option (IExit × St) := gd (List.all [(.int .i64 x0_2), (.int .i64 x0_3), (.int .i64 x0_4)] isFlat) (
  callN [(.int .i64 x0_0)] (callL pg 63 [(.int .i64 x0_0)] []) fun r1 => unI .i64 r1 fun n2 => 
  slX 1 (degr (.stk (List.length gh) 0 3)) none (some n2) fun v3 => isC v3 (stK 0 v3 (some (.ret, ⟨[(2, v3)], [], (gh ++ [.stk 0 [(.int .i64 x0_2), (.int .i64 x0_3), (.int .i64 x0_4)]])⟩))))

theorem D_model_Args_K_0_ok {pg : Prg} {gh : List GObj} {x0_0 : Int} {x0_1 : Int} {x0_2 : Int} {x0_3 : Int} {x0_4 : Int} {x0_5 : Int} {e : IExit} {s : St} (h : D_model_Args_K_0 pg x0_0 x0_1 x0_2 x0_3 x0_4 x0_5 gh = some (e, s)) : runL pg f_model_Args_K_0 ⟨[(0, (.agg [(.int .i64 x0_0), (.int .i64 x0_1), (.int .i64 x0_2), (.int .i64 x0_3), (.int .i64 x0_4), (.int .i64 x0_5)]))], [], gh⟩ = some (e, s) :=
  runX_ok an_model_Args_K (Eq.trans (by kernel_rfl) h)

end Go.Lw
end

/-! What the code of function slices_Concat_Lapi_Pair_api_Pair comes to, piece by piece. Written by program (dprint.py). -/
section
set_option maxRecDepth 10000
set_option maxHeartbeats 4000000
namespace Go.Lw
open Go

def an_slices_Concat_Lapi_Pair_api_Pair : Tr := (.node 19 (.ce (.int .i64)) (.node 10 (.ce (.int .i64)) (.node 5 (.ce (.one)) (.node 2 (.ce (.one)) (.node 0 (.ce (.one)) .nil .nil) (.node 3 (.ce (.int .i64)) .nil .nil)) (.node 8 (.ce (.one)) (.node 6 (.ce (.one)) .nil .nil) (.node 9 (.ce (.one)) .nil .nil))) (.node 15 (.ce (.int .i64)) (.node 12 (.ce (.bool)) (.node 11 (.ce (.int .i64)) .nil .nil) (.node 14 (.ce (.one)) .nil .nil)) (.node 17 (.ce (.int .i64)) (.node 16 (.ce (.one)) .nil .nil) (.node 18 (.ce (.int .i64)) .nil .nil)))) (.node 28 (.ce (.bool)) (.node 24 (.ce (.one)) (.node 22 (.ce (.int .i64)) (.node 20 (.ce (.bool)) .nil .nil) (.node 23 (.ce (.int .i64)) .nil .nil)) (.node 26 (.ce (.int .i64)) (.node 25 (.ce (.one)) .nil .nil) (.node 27 (.ce (.int .i64)) .nil .nil))) (.node 33 (.ce (.one)) (.node 31 (.ce (.one)) (.node 30 (.ce (.one)) .nil .nil) (.node 32 (.ce (.one)) .nil .nil)) (.node 35 (.ce (.one)) (.node 34 (.ce (.int .i64)) .nil .nil) .nil))))

noncomputable def D_slices_Concat_Lapi_Pair_api_Pair_b1 (pg : Prg) (v0 : PV) (x3 : Int) (v9 : PV) (x10 : Int) (x11 : Int) (gh : List GObj) : Option (IExit × St) := 
  br 12 (decide (x11 < x10)) (
  idX 1 none (degr v9) x11 fun p1 => 
  ldX [] gh false 1 (degr p1) fun v2 => isC v2 (stK 0 v0 (stK 0 v2 (stK 0 v9 (isC (degr v2) (lenS (degr (degr v2)) fun n3 => stK 0 v0 (stK 0 v9 (stK 0 v0 (stK 0 v9 (
  br 20 (decide ((IntKind.i64.wrap (x3 + (n3 : Int))) < 0)) (none) (stK 0 v0 (stK 0 v9 (stK 0 v0 (stK 0 v9 (some (.normal, ⟨[(0, v0), (3, (.int .i64 (IntKind.i64.wrap (x3 + (n3 : Int))))), (9, v9), (10, (.int .i64 x10)), (11, (.int .i64 (IntKind.i64.wrap (x11 + 1))))], [], gh⟩)))))))))))))))) (some ((.exit 0), ⟨[(0, v0), (3, (.int .i64 x3)), (9, v9), (10, (.int .i64 x10)), (11, (.int .i64 x11)), (12, (.bool (decide (x11 < x10))))], [], gh⟩))

theorem D_slices_Concat_Lapi_Pair_api_Pair_b1_ok {pg : Prg} {gh : List GObj} {v0 : PV} {x3 : Int} {v9 : PV} {x10 : Int} {x11 : Int} {e : IExit} {s : St} (h : D_slices_Concat_Lapi_Pair_api_Pair_b1 pg v0 x3 v9 x10 x11 gh = some (e, s)) : runL pg f_slices_Concat_Lapi_Pair_api_Pair_b1 ⟨[(0, v0), (3, (.int .i64 x3)), (9, v9), (10, (.int .i64 x10)), (11, (.int .i64 x11))], [], gh⟩ = some (e, s) :=
  runX_ok an_slices_Concat_Lapi_Pair_api_Pair (Eq.trans (by kernel_rfl) h)

noncomputable def D_slices_Concat_Lapi_Pair_api_Pair_b2 (pg : Prg) (v6 : PV) (v25 : PV) (x26 : Int) (x27 : Int) (gh : List GObj) : Option (IExit × St) := 
  br 28 (decide (x27 < x26)) (
  idX 1 none (degr v25) x27 fun p1 => 
  ldX [] gh false 1 (degr p1) fun v2 => isC v2 (stK 0 v6 (stK 0 v2 (stK 0 v25 (isC (degr v2) (
  apX 2 16 v6 (degr (degr v2)) fun l3 => stK 0 v25 (stK 0 v25 (stK 0 v25 (some (.normal, ⟨[(6, (.sl true 2 l3)), (25, v25), (26, (.int .i64 x26)), (27, (.int .i64 (IntKind.i64.wrap (x27 + 1))))], [], gh⟩)))))))))) (some ((.exit 2), ⟨[(6, v6), (25, v25), (26, (.int .i64 x26)), (27, (.int .i64 x27)), (28, (.bool (decide (x27 < x26))))], [], gh⟩))

theorem D_slices_Concat_Lapi_Pair_api_Pair_b2_ok {pg : Prg} {gh : List GObj} {v6 : PV} {v25 : PV} {x26 : Int} {x27 : Int} {e : IExit} {s : St} (h : D_slices_Concat_Lapi_Pair_api_Pair_b2 pg v6 v25 x26 x27 gh = some (e, s)) : runL pg f_slices_Concat_Lapi_Pair_api_Pair_b2 ⟨[(6, v6), (25, v25), (26, (.int .i64 x26)), (27, (.int .i64 x27))], [], gh⟩ = some (e, s) :=
  runX_ok an_slices_Concat_Lapi_Pair_api_Pair (Eq.trans (by kernel_rfl) h)

noncomputable def D_slices_Concat_Lapi_Pair_api_Pair_k2 (pg : Prg) (v6 : PV) (gh : List GObj) : Option (IExit × St) := isC (degr v6) (stK 0 (degr v6) (some (.ret, ⟨[(2, (degr v6))], [], gh⟩)))

theorem D_slices_Concat_Lapi_Pair_api_Pair_k2_ok {pg : Prg} {gh : List GObj} {v6 : PV} {e : IExit} {s : St} (h : D_slices_Concat_Lapi_Pair_api_Pair_k2 pg v6 gh = some (e, s)) : runL pg f_slices_Concat_Lapi_Pair_api_Pair_k2 ⟨[(6, v6)], [], gh⟩ = some (e, s) :=
  runX_ok an_slices_Concat_Lapi_Pair_api_Pair (Eq.trans (by kernel_rfl) h)

noncomputable def D_slices_Concat_Lapi_Pair_api_Pair_k1 (pg : Prg) (v0 : PV) (x3 : Int) (gh : List GObj) : Option (IExit × St) := 
  callR gh true (callL pg 110 [.nils, (.int .i64 x3)] gh) fun r1 gh2 => isC r1 (stK 0 v0 (stK 0 r1 (isC (degr v0) (lenS (degr (degr v0)) fun n3 => stK 0 r1 (stK 0 (degr v0) (
  kR (runL pg f_slices_Concat_Lapi_Pair_api_Pair_l2 ⟨[(6, r1), (25, (degr v0)), (26, (.int .i64 (n3 : Int))), (27, (.int .i64 0))], [], gh2⟩) (fun e s => nx e s (fun e s => some (e, s)) fun s => kR (runL pg f_slices_Concat_Lapi_Pair_api_Pair_k2 s) (fun e s => some (e, s)))))))))

theorem D_slices_Concat_Lapi_Pair_api_Pair_k1_ok {pg : Prg} {gh : List GObj} {v0 : PV} {x3 : Int} {e : IExit} {s : St} (h : D_slices_Concat_Lapi_Pair_api_Pair_k1 pg v0 x3 gh = some (e, s)) : runL pg f_slices_Concat_Lapi_Pair_api_Pair_k1 ⟨[(0, v0), (3, (.int .i64 x3))], [], gh⟩ = some (e, s) :=
  runX_ok an_slices_Concat_Lapi_Pair_api_Pair (Eq.trans (by kernel_rfl) h)

noncomputable def D_slices_Concat_Lapi_Pair_api_Pair_0 (pg : Prg) (v0 : PV) (gh : List GObj) : Option (IExit × St) := stK 0 v0 (isC (degr v0) (lenS (degr (degr v0)) fun n1 => stK 0 v0 (stK 0 (degr v0) (
  kR (runL pg f_slices_Concat_Lapi_Pair_api_Pair_l1 ⟨[(0, v0), (3, (.int .i64 0)), (9, (degr v0)), (10, (.int .i64 (n1 : Int))), (11, (.int .i64 0))], [], gh⟩) (fun e s => nx e s (fun e s => some (e, s)) fun s => kR (runL pg f_slices_Concat_Lapi_Pair_api_Pair_k1 s) (fun e s => some (e, s)))))))

theorem D_slices_Concat_Lapi_Pair_api_Pair_0_ok {pg : Prg} {gh : List GObj} {v0 : PV} {e : IExit} {s : St} (h : D_slices_Concat_Lapi_Pair_api_Pair_0 pg v0 gh = some (e, s)) : runL pg f_slices_Concat_Lapi_Pair_api_Pair_0 ⟨[(0, v0)], [], gh⟩ = some (e, s) :=
  runX_ok an_slices_Concat_Lapi_Pair_api_Pair (Eq.trans (by kernel_rfl) h)

end Go.Lw
end

/-! What the code of function ref_ConeOf comes to, piece by piece. Written by program (dprint.py). -/
section
set_option maxRecDepth 10000
set_option maxHeartbeats 4000000
namespace Go.Lw
open Go

def an_ref_ConeOf : Tr := (.node 70 (.ce (.int .i64)) (.node 33 (.ce (.int .i64)) (.node 17 (.ce (.one)) (.node 8 (.ce (.gp)) (.node 5 (.ce (.bool)) (.node 1 (.ce (.one)) (.node 0 (.agg [.any, .any, .any, .any, .any]) .nil .nil) (.node 4 (.ce (.one)) .nil .nil)) (.node 7 (.ce (.int .i64)) (.node 6 (.ce (.gp)) .nil .nil) .nil)) (.node 13 (.ce (.int .i64)) (.node 10 (.ce (.int .i64)) (.node 9 (.ce (.one)) .nil .nil) (.node 12 (.ce (.int .i64)) .nil .nil)) (.node 15 (.ce (.int .i64)) (.node 14 (.ce (.one)) .nil .nil) .nil))) (.node 24 (.ce (.int .i64)) (.node 21 (.ce (.one)) (.node 19 (.ce (.one)) (.node 18 (.ce (.int .i64)) .nil .nil) (.node 20 (.ce (.int .i64)) .nil .nil)) (.node 23 (.ce (.bool)) (.node 22 (.ce (.int .i64)) .nil .nil) .nil)) (.node 29 (.ce (.int .i64)) (.node 26 (.ce (.one)) (.node 25 (.ce (.int .i64)) .nil .nil) (.node 27 (.ce (.int .i64)) .nil .nil)) (.node 32 (.ce (.int .i64)) (.node 31 (.ce (.one)) .nil .nil) .nil)))) (.node 49 (.ce (.int .i64)) (.node 41 (.ce (.gp)) (.node 37 (.ce (.one)) (.node 35 (.ce (.bool)) (.node 34 (.ce (.bool)) .nil .nil) (.node 36 (.ce (.one)) .nil .nil)) (.node 40 (.ce (.int .i64)) (.node 38 (.ce (.int .i64)) .nil .nil) .nil)) (.node 46 (.ce (.one)) (.node 43 (.ce (.one)) (.node 42 (.ce (.bool)) .nil .nil) (.node 44 (.ce (.int .i64)) .nil .nil)) (.node 48 (.ce (.bool)) (.node 47 (.ce (.int .i64)) .nil .nil) .nil))) (.node 58 (.ce (.int .i64)) (.node 54 (.ce (.bool)) (.node 51 (.ce (.one)) (.node 50 (.ce (.int .i64)) .nil .nil) (.node 52 (.ce (.int .i64)) .nil .nil)) (.node 57 (.ce (.one)) (.node 55 (.ce (.bool)) .nil .nil) .nil)) (.node 64 (.ce (.bool)) (.node 62 (.ce (.int .i64)) (.node 60 (.agg [.int .i64, .int .i64, .int .i64, .int .i64, .int .i64, .int .i64]) .nil .nil) (.node 63 (.ce (.int .i64)) .nil .nil)) (.node 67 (.ce (.int .i64)) (.node 65 (.ce (.one)) .nil .nil) .nil))))) (.node 113 (.ce (.bool)) (.node 90 (.ce (.int .i64)) (.node 80 (.ce (.bool)) (.node 75 (.ce (.int .i64)) (.node 72 (.ce (.bool)) (.node 71 (.ce (.int .i64)) .nil .nil) (.node 73 (.ce (.one)) .nil .nil)) (.node 79 (.ce (.int .i64)) (.node 78 (.ce (.int .i64)) .nil .nil) .nil)) (.node 87 (.ce (.one)) (.node 83 (.ce (.int .i64)) (.node 81 (.ce (.one)) .nil .nil) (.node 85 (.ce (.int .i64)) .nil .nil)) (.node 89 (.ce (.bool)) (.node 88 (.ce (.int .i64)) .nil .nil) .nil))) (.node 101 (.ce (.one)) (.node 95 (.ce (.int .i64)) (.node 92 (.ce (.one)) (.node 91 (.ce (.int .i64)) .nil .nil) (.node 94 (.ce (.one)) .nil .nil)) (.node 100 (.ce (.bool)) (.node 98 (.ce (.int .i64)) .nil .nil) .nil)) (.node 109 (.ce (.int .i64)) (.node 104 (.ce (.int .i64)) (.node 103 (.ce (.one)) .nil .nil) (.node 107 (.ce (.int .i64)) .nil .nil)) (.node 112 (.ce (.int .i64)) (.node 111 (.ce (.one)) .nil .nil) .nil)))) (.node 135 (.ce (.one)) (.node 124 (.ce (.bool)) (.node 118 (.ce (.one)) (.node 115 (.ce (.int .i64)) (.node 114 (.ce (.int .i64)) .nil .nil) (.node 116 (.ce (.one)) .nil .nil)) (.node 122 (.ce (.int .i64)) (.node 119 (.ce (.int .i64)) .nil .nil) .nil)) (.node 131 (.ce (.int .i64)) (.node 127 (.ce (.one)) (.node 125 (.ce (.one)) .nil .nil) (.node 128 (.ce (.int .i64)) .nil .nil)) (.node 134 (.ce (.int .i64)) (.node 133 (.ce (.bool)) .nil .nil) .nil))) (.node 143 (.ce (.bool)) (.node 139 (.ce (.int .i64)) (.node 137 (.ce (.bool)) (.node 136 (.ce (.int .i64)) .nil .nil) (.node 138 (.ce (.int .i64)) .nil .nil)) (.node 141 (.ce (.int .i64)) (.node 140 (.ce (.one)) .nil .nil) .nil)) (.node 146 (.ce (.one)) (.node 145 (.ce (.int .i64)) (.node 144 (.ce (.one)) .nil .nil) .nil) (.node 148 (.ce (.one)) (.node 147 (.ce (.one)) .nil .nil) .nil))))))

noncomputable def D_ref_ConeOf_b1 (pg : Prg) (v1 : PV) (g6 : Nat) (o6 : Nat) (x7 : Int) (vc0_0 : PV) (vc0_1 : PV) (vc0_2 : PV) (vc0_3 : PV) (vc0_4 : PV) (gh : List GObj) : Option (IExit × St) := isC (degr v1) (lenS (degr (degr v1)) fun n1 => stK 1 v1 (
  br 23 (decide (x7 < (n1 : Int))) (isC (degr v1) (
  idX 1 none (degr (degr v1)) x7 fun p2 => 
  ldX [[vc0_0, vc0_1, vc0_2, vc0_3, vc0_4]] gh false 1 (degr p2) fun v3 => unI .i64 v3 fun n4 => isC (degr vc0_0) (lenS (degr (degr vc0_0)) fun n5 => 
  callR gh true (callL pg 50 [(.int .i64 n4), (.int .i64 0), (.int .i64 (IntKind.i64.wrap ((n5 : Int) - 1)))] gh) fun r6 gh7 => unB r6 fun b8 => stK 1 v1 (
  br 35 (!b8) (some (.ret, ⟨[(4, (.sl true 1 [])), (5, (.bool false))], [], gh7⟩)) (
  ob (ghCells gh7 g6) fun cs9 => 
  ob (grab false 1 o6 cs9) fun v10 => isC (degr v10) (isC (degr v1) (
  idX 1 none (degr (degr v1)) x7 fun p11 => 
  ldX [[vc0_0, vc0_1, vc0_2, vc0_3, vc0_4]] gh7 false 1 (degr p11) fun v12 => unI .i64 v12 fun n13 => 
  idX 1 none (degr (degr v10)) n13 fun p14 => unG p14 fun g15 o16 => 
  ob (ghCells gh7 g15) fun cs17 => gb (stOk 1 o16 [(.bool true)] cs17) (stK 1 v1 (stK 1 v1 (stK 1 v1 (some (.normal, ⟨[(1, v1), (2, (.ptr false 0 0)), (6, (.ptr true g6 o6)), (7, (.int .i64 (IntKind.i64.wrap (x7 + 1))))], [[vc0_0, vc0_1, vc0_2, vc0_3, vc0_4]], (List.set gh7 g15 (.cells (spliceAt cs17 o16 [(.bool true)])))⟩)))))))))))) (some ((.exit 0), ⟨[(1, v1), (2, (.ptr false 0 0)), (6, (.ptr true g6 o6)), (7, (.int .i64 x7)), (23, (.bool (decide (x7 < (n1 : Int)))))], [[vc0_0, vc0_1, vc0_2, vc0_3, vc0_4]], gh⟩))))

theorem D_ref_ConeOf_b1_ok {pg : Prg} {gh : List GObj} {v1 : PV} {g6 : Nat} {o6 : Nat} {x7 : Int} {vc0_0 : PV} {vc0_1 : PV} {vc0_2 : PV} {vc0_3 : PV} {vc0_4 : PV} {e : IExit} {s : St} (h : D_ref_ConeOf_b1 pg v1 g6 o6 x7 vc0_0 vc0_1 vc0_2 vc0_3 vc0_4 gh = some (e, s)) : runL pg f_ref_ConeOf_b1 ⟨[(1, v1), (2, (.ptr false 0 0)), (6, (.ptr true g6 o6)), (7, (.int .i64 x7))], [[vc0_0, vc0_1, vc0_2, vc0_3, vc0_4]], gh⟩ = some (e, s) :=
  runX_ok an_ref_ConeOf (Eq.trans (by kernel_rfl) h)

noncomputable def D_ref_ConeOf_k3 (pg : Prg) (g6 : Nat) (o6 : Nat) (g8 : Nat) (o8 : Nat) (v9 : PV) (x10 : Int) (vc0_0 : PV) (vc0_1 : PV) (vc0_2 : PV) (vc0_3 : PV) (vc0_4 : PV) (xc1_0 : Int) (xc1_1 : Int) (xc1_2 : Int) (xc1_3 : Int) (xc1_4 : Int) (xc1_5 : Int) (gh : List GObj) : Option (IExit × St) := 
  callR gh true (callL pg 26 [(.int .i64 xc1_0)] gh) fun r1 gh2 => unI .i64 r1 fun n3 => stK 2 v9 (
  br 80 (decide (2 < n3)) (isC (degr v9) (
  fnX (degr (degr v9)) fun f6 cs7 => allK cs7 (callR gh2 false (callL pg f6 ([(.int .i64 xc1_4)] ++ cs7) gh2) fun r4 gh5 => stK 1 v9 (stK 1 v9 (some (.normal, ⟨[(2, (.ptr false 0 0)), (6, (.ptr true g6 o6)), (8, (.ptr true g8 o8)), (9, v9), (10, (.int .i64 x10))], [[vc0_0, vc0_1, vc0_2, vc0_3, vc0_4]], gh5⟩)))))) (stK 1 v9 (some (.normal, ⟨[(2, (.ptr false 0 0)), (6, (.ptr true g6 o6)), (8, (.ptr true g8 o8)), (9, v9), (10, (.int .i64 x10))], [[vc0_0, vc0_1, vc0_2, vc0_3, vc0_4]], gh2⟩))))

theorem D_ref_ConeOf_k3_ok {pg : Prg} {gh : List GObj} {g6 : Nat} {o6 : Nat} {g8 : Nat} {o8 : Nat} {v9 : PV} {x10 : Int} {vc0_0 : PV} {vc0_1 : PV} {vc0_2 : PV} {vc0_3 : PV} {vc0_4 : PV} {xc1_0 : Int} {xc1_1 : Int} {xc1_2 : Int} {xc1_3 : Int} {xc1_4 : Int} {xc1_5 : Int} {e : IExit} {s : St} (h : D_ref_ConeOf_k3 pg g6 o6 g8 o8 v9 x10 vc0_0 vc0_1 vc0_2 vc0_3 vc0_4 xc1_0 xc1_1 xc1_2 xc1_3 xc1_4 xc1_5 gh = some (e, s)) : runL pg f_ref_ConeOf_k3 ⟨[(2, (.ptr false 0 0)), (6, (.ptr true g6 o6)), (8, (.ptr true g8 o8)), (9, v9), (10, (.int .i64 x10)), (11, (.ptr false 1 0))], [[vc0_0, vc0_1, vc0_2, vc0_3, vc0_4], [(.int .i64 xc1_0), (.int .i64 xc1_1), (.int .i64 xc1_2), (.int .i64 xc1_3), (.int .i64 xc1_4), (.int .i64 xc1_5)]], gh⟩ = some (e, s) :=
  runX_ok an_ref_ConeOf (Eq.trans (by kernel_rfl) h)

noncomputable def D_ref_ConeOf_k2 (pg : Prg) (g6 : Nat) (o6 : Nat) (g8 : Nat) (o8 : Nat) (v9 : PV) (x10 : Int) (vc0_0 : PV) (vc0_1 : PV) (vc0_2 : PV) (vc0_3 : PV) (vc0_4 : PV) (xc1_0 : Int) (xc1_1 : Int) (xc1_2 : Int) (xc1_3 : Int) (xc1_4 : Int) (xc1_5 : Int) (gh : List GObj) : Option (IExit × St) := 
  callR gh true (callL pg 26 [(.int .i64 xc1_0)] gh) fun r1 gh2 => unI .i64 r1 fun n3 => stK 2 v9 (
  br 72 (decide (1 < n3)) (isC (degr v9) (
  fnX (degr (degr v9)) fun f6 cs7 => allK cs7 (callR gh2 false (callL pg f6 ([(.int .i64 xc1_3)] ++ cs7) gh2) fun r4 gh5 => stK 2 v9 (stK 2 v9 (
  kR (runL pg f_ref_ConeOf_k3 ⟨[(2, (.ptr false 0 0)), (6, (.ptr true g6 o6)), (8, (.ptr true g8 o8)), (9, v9), (10, (.int .i64 x10)), (11, (.ptr false 1 0))], [[vc0_0, vc0_1, vc0_2, vc0_3, vc0_4], [(.int .i64 xc1_0), (.int .i64 xc1_1), (.int .i64 xc1_2), (.int .i64 xc1_3), (.int .i64 xc1_4), (.int .i64 xc1_5)]], gh5⟩) (fun e s => some (e, s))))))) (stK 2 v9 (
  kR (runL pg f_ref_ConeOf_k3 ⟨[(2, (.ptr false 0 0)), (6, (.ptr true g6 o6)), (8, (.ptr true g8 o8)), (9, v9), (10, (.int .i64 x10)), (11, (.ptr false 1 0))], [[vc0_0, vc0_1, vc0_2, vc0_3, vc0_4], [(.int .i64 xc1_0), (.int .i64 xc1_1), (.int .i64 xc1_2), (.int .i64 xc1_3), (.int .i64 xc1_4), (.int .i64 xc1_5)]], gh2⟩) (fun e s => some (e, s)))))

theorem D_ref_ConeOf_k2_ok {pg : Prg} {gh : List GObj} {g6 : Nat} {o6 : Nat} {g8 : Nat} {o8 : Nat} {v9 : PV} {x10 : Int} {vc0_0 : PV} {vc0_1 : PV} {vc0_2 : PV} {vc0_3 : PV} {vc0_4 : PV} {xc1_0 : Int} {xc1_1 : Int} {xc1_2 : Int} {xc1_3 : Int} {xc1_4 : Int} {xc1_5 : Int} {e : IExit} {s : St} (h : D_ref_ConeOf_k2 pg g6 o6 g8 o8 v9 x10 vc0_0 vc0_1 vc0_2 vc0_3 vc0_4 xc1_0 xc1_1 xc1_2 xc1_3 xc1_4 xc1_5 gh = some (e, s)) : runL pg f_ref_ConeOf_k2 ⟨[(2, (.ptr false 0 0)), (6, (.ptr true g6 o6)), (8, (.ptr true g8 o8)), (9, v9), (10, (.int .i64 x10)), (11, (.ptr false 1 0))], [[vc0_0, vc0_1, vc0_2, vc0_3, vc0_4], [(.int .i64 xc1_0), (.int .i64 xc1_1), (.int .i64 xc1_2), (.int .i64 xc1_3), (.int .i64 xc1_4), (.int .i64 xc1_5)]], gh⟩ = some (e, s) :=
  runX_ok an_ref_ConeOf (Eq.trans (by kernel_rfl) h)

noncomputable def D_ref_ConeOf_k4 (pg : Prg) (g6 : Nat) (o6 : Nat) (g8 : Nat) (o8 : Nat) (v9 : PV) (x10 : Int) (vc0_0 : PV) (vc0_1 : PV) (vc0_2 : PV) (vc0_3 : PV) (vc0_4 : PV) (gh : List GObj) : Option (IExit × St) := stK 1 v9 (some (.normal, ⟨[(2, (.ptr false 0 0)), (6, (.ptr true g6 o6)), (8, (.ptr true g8 o8)), (9, v9), (10, (.int .i64 (IntKind.i64.wrap (x10 + 1))))], [[vc0_0, vc0_1, vc0_2, vc0_3, vc0_4]], gh⟩))

theorem D_ref_ConeOf_k4_ok {pg : Prg} {gh : List GObj} {g6 : Nat} {o6 : Nat} {g8 : Nat} {o8 : Nat} {v9 : PV} {x10 : Int} {vc0_0 : PV} {vc0_1 : PV} {vc0_2 : PV} {vc0_3 : PV} {vc0_4 : PV} {e : IExit} {s : St} (h : D_ref_ConeOf_k4 pg g6 o6 g8 o8 v9 x10 vc0_0 vc0_1 vc0_2 vc0_3 vc0_4 gh = some (e, s)) : runL pg f_ref_ConeOf_k4 ⟨[(2, (.ptr false 0 0)), (6, (.ptr true g6 o6)), (8, (.ptr true g8 o8)), (9, v9), (10, (.int .i64 x10))], [[vc0_0, vc0_1, vc0_2, vc0_3, vc0_4]], gh⟩ = some (e, s) :=
  runX_ok an_ref_ConeOf (Eq.trans (by kernel_rfl) h)

noncomputable def D_ref_ConeOf_b3 (pg : Prg) (g6 : Nat) (o6 : Nat) (g8 : Nat) (o8 : Nat) (v9 : PV) (x10 : Int) (vc0_0 : PV) (vc0_1 : PV) (vc0_2 : PV) (vc0_3 : PV) (vc0_4 : PV) (gh : List GObj) : Option (IExit × St) := isC (degr vc0_0) (lenS (degr (degr vc0_0)) fun n1 => stK 1 v9 (
  br 48 (decide (x10 < (n1 : Int))) (
  ob (ghCells gh g6) fun cs2 => 
  ob (grab false 1 o6 cs2) fun v3 => isC (degr v3) (
  idX 1 none (degr (degr v3)) x10 fun p4 => 
  ldX [[vc0_0, vc0_1, vc0_2, vc0_3, vc0_4]] gh false 1 (degr p4) fun v5 => unB v5 fun b6 => stK 1 v9 (
  br 55 (!b6) (stK 1 v9 (
  kR (runL pg f_ref_ConeOf_k4 ⟨[(2, (.ptr false 0 0)), (6, (.ptr true g6 o6)), (8, (.ptr true g8 o8)), (9, v9), (10, (.int .i64 x10))], [[vc0_0, vc0_1, vc0_2, vc0_3, vc0_4]], gh⟩) (fun e s => po [2, 6, 8, 9, 10] 1 e s (fun e s => some (e, s))))) (isC (degr vc0_0) (
  idX 6 none (degr (degr vc0_0)) x10 fun p7 => 
  ldX [[vc0_0, vc0_1, vc0_2, vc0_3, vc0_4]] gh true 6 (degr p7) fun v8 => unA 6 v8 fun c9 c10 c11 c12 c13 c14 => unI .i64 c9 fun n15 => unI .i64 c10 fun n16 => unI .i64 c11 fun n17 => unI .i64 c12 fun n18 => unI .i64 c13 fun n19 => unI .i64 c14 fun n20 => stK 2 v9 (
  callR gh true (callL pg 26 [(.int .i64 n15)] gh) fun r21 gh22 => unI .i64 r21 fun n23 => stK 2 v9 (
  br 64 (decide (0 < n23)) (isC (degr v9) (
  fnX (degr (degr v9)) fun f26 cs27 => allK cs27 (callR gh22 false (callL pg f26 ([(.int .i64 n17)] ++ cs27) gh22) fun r24 gh25 => stK 2 v9 (stK 2 v9 (
  kR (runL pg f_ref_ConeOf_k2 ⟨[(2, (.ptr false 0 0)), (6, (.ptr true g6 o6)), (8, (.ptr true g8 o8)), (9, v9), (10, (.int .i64 x10)), (11, (.ptr false 1 0))], [[vc0_0, vc0_1, vc0_2, vc0_3, vc0_4], [(.int .i64 n15), (.int .i64 n16), (.int .i64 n17), (.int .i64 n18), (.int .i64 n19), (.int .i64 n20)]], gh25⟩) (fun e s => bk 5 e s (fun e s => po [2, 6, 8, 9, 10] 1 e s (fun e s => nx e s (fun e s => po [2, 6, 8, 9, 10] 1 e s (fun e s => some (e, s))) fun s => kR (runL pg f_ref_ConeOf_k4 s) (fun e s => po [2, 6, 8, 9, 10] 1 e s (fun e s => some (e, s))))))))))) (stK 2 v9 (
  kR (runL pg f_ref_ConeOf_k2 ⟨[(2, (.ptr false 0 0)), (6, (.ptr true g6 o6)), (8, (.ptr true g8 o8)), (9, v9), (10, (.int .i64 x10)), (11, (.ptr false 1 0))], [[vc0_0, vc0_1, vc0_2, vc0_3, vc0_4], [(.int .i64 n15), (.int .i64 n16), (.int .i64 n17), (.int .i64 n18), (.int .i64 n19), (.int .i64 n20)]], gh22⟩) (fun e s => bk 5 e s (fun e s => po [2, 6, 8, 9, 10] 1 e s (fun e s => nx e s (fun e s => po [2, 6, 8, 9, 10] 1 e s (fun e s => some (e, s))) fun s => kR (runL pg f_ref_ConeOf_k4 s) (fun e s => po [2, 6, 8, 9, 10] 1 e s (fun e s => some (e, s))))))))))))))) (some ((.exit 4), ⟨[(2, (.ptr false 0 0)), (6, (.ptr true g6 o6)), (8, (.ptr true g8 o8)), (9, v9), (10, (.int .i64 x10)), (48, (.bool (decide (x10 < (n1 : Int)))))], [[vc0_0, vc0_1, vc0_2, vc0_3, vc0_4]], gh⟩))))

theorem D_ref_ConeOf_b3_ok {pg : Prg} {gh : List GObj} {g6 : Nat} {o6 : Nat} {g8 : Nat} {o8 : Nat} {v9 : PV} {x10 : Int} {vc0_0 : PV} {vc0_1 : PV} {vc0_2 : PV} {vc0_3 : PV} {vc0_4 : PV} {e : IExit} {s : St} (h : D_ref_ConeOf_b3 pg g6 o6 g8 o8 v9 x10 vc0_0 vc0_1 vc0_2 vc0_3 vc0_4 gh = some (e, s)) : runL pg f_ref_ConeOf_b3 ⟨[(2, (.ptr false 0 0)), (6, (.ptr true g6 o6)), (8, (.ptr true g8 o8)), (9, v9), (10, (.int .i64 x10))], [[vc0_0, vc0_1, vc0_2, vc0_3, vc0_4]], gh⟩ = some (e, s) :=
  runX_ok an_ref_ConeOf (Eq.trans (by kernel_rfl) h)

noncomputable def D_ref_ConeOf_k6 (pg : Prg) (g6 : Nat) (o6 : Nat) (g8 : Nat) (o8 : Nat) (v9 : PV) (x12 : Int) (vc0_0 : PV) (vc0_1 : PV) (vc0_2 : PV) (vc0_3 : PV) (vc0_4 : PV) (gh : List GObj) : Option (IExit × St) := stK 1 v9 (some (.normal, ⟨[(2, (.ptr false 0 0)), (6, (.ptr true g6 o6)), (8, (.ptr true g8 o8)), (9, v9), (12, (.int .i64 (IntKind.i64.wrap (x12 + 1))))], [[vc0_0, vc0_1, vc0_2, vc0_3, vc0_4]], gh⟩))

theorem D_ref_ConeOf_k6_ok {pg : Prg} {gh : List GObj} {g6 : Nat} {o6 : Nat} {g8 : Nat} {o8 : Nat} {v9 : PV} {x12 : Int} {vc0_0 : PV} {vc0_1 : PV} {vc0_2 : PV} {vc0_3 : PV} {vc0_4 : PV} {e : IExit} {s : St} (h : D_ref_ConeOf_k6 pg g6 o6 g8 o8 v9 x12 vc0_0 vc0_1 vc0_2 vc0_3 vc0_4 gh = some (e, s)) : runL pg f_ref_ConeOf_k6 ⟨[(2, (.ptr false 0 0)), (6, (.ptr true g6 o6)), (8, (.ptr true g8 o8)), (9, v9), (12, (.int .i64 x12))], [[vc0_0, vc0_1, vc0_2, vc0_3, vc0_4]], gh⟩ = some (e, s) :=
  runX_ok an_ref_ConeOf (Eq.trans (by kernel_rfl) h)

noncomputable def D_ref_ConeOf_b4 (pg : Prg) (g6 : Nat) (o6 : Nat) (g8 : Nat) (o8 : Nat) (v9 : PV) (x12 : Int) (vc0_0 : PV) (vc0_1 : PV) (vc0_2 : PV) (vc0_3 : PV) (vc0_4 : PV) (gh : List GObj) : Option (IExit × St) := isC (degr vc0_1) (lenS (degr (degr vc0_1)) fun n1 => stK 1 v9 (
  br 89 (decide (x12 < (n1 : Int))) (
  ob (ghCells gh g6) fun cs2 => 
  ob (grab false 1 o6 cs2) fun v3 => isC (degr v3) (isC (degr vc0_1) (
  idX 2 none (degr (degr vc0_1)) x12 fun p4 => faX (degr p4) 0 fun p5 => 
  ldX [[vc0_0, vc0_1, vc0_2, vc0_3, vc0_4]] gh false 1 (degr p5) fun v6 => unI .i64 v6 fun n7 => 
  idX 1 none (degr (degr v3)) n7 fun p8 => 
  ldX [[vc0_0, vc0_1, vc0_2, vc0_3, vc0_4]] gh false 1 (degr p8) fun v10 => unB v10 fun b11 => stK 1 v9 (
  br 100 b11 (isC (degr v9) (isC (degr vc0_1) (
  idX 2 none (degr (degr vc0_1)) x12 fun p12 => faX (degr p12) 1 fun p13 => 
  ldX [[vc0_0, vc0_1, vc0_2, vc0_3, vc0_4]] gh false 1 (degr p13) fun v14 => unI .i64 v14 fun n15 => 
  fnX (degr (degr v9)) fun f18 cs19 => allK cs19 (callR gh false (callL pg f18 ([(.int .i64 n15)] ++ cs19) gh) fun r16 gh17 => stK 1 v9 (stK 1 v9 (
  kR (runL pg f_ref_ConeOf_k6 ⟨[(2, (.ptr false 0 0)), (6, (.ptr true g6 o6)), (8, (.ptr true g8 o8)), (9, v9), (12, (.int .i64 x12))], [[vc0_0, vc0_1, vc0_2, vc0_3, vc0_4]], gh17⟩) (fun e s => po [2, 6, 8, 9, 12] 1 e s (fun e s => some (e, s))))))))) (stK 1 v9 (
  kR (runL pg f_ref_ConeOf_k6 ⟨[(2, (.ptr false 0 0)), (6, (.ptr true g6 o6)), (8, (.ptr true g8 o8)), (9, v9), (12, (.int .i64 x12))], [[vc0_0, vc0_1, vc0_2, vc0_3, vc0_4]], gh⟩) (fun e s => po [2, 6, 8, 9, 12] 1 e s (fun e s => some (e, s))))))))) (some ((.exit 6), ⟨[(2, (.ptr false 0 0)), (6, (.ptr true g6 o6)), (8, (.ptr true g8 o8)), (9, v9), (12, (.int .i64 x12)), (89, (.bool (decide (x12 < (n1 : Int)))))], [[vc0_0, vc0_1, vc0_2, vc0_3, vc0_4]], gh⟩))))

theorem D_ref_ConeOf_b4_ok {pg : Prg} {gh : List GObj} {g6 : Nat} {o6 : Nat} {g8 : Nat} {o8 : Nat} {v9 : PV} {x12 : Int} {vc0_0 : PV} {vc0_1 : PV} {vc0_2 : PV} {vc0_3 : PV} {vc0_4 : PV} {e : IExit} {s : St} (h : D_ref_ConeOf_b4 pg g6 o6 g8 o8 v9 x12 vc0_0 vc0_1 vc0_2 vc0_3 vc0_4 gh = some (e, s)) : runL pg f_ref_ConeOf_b4 ⟨[(2, (.ptr false 0 0)), (6, (.ptr true g6 o6)), (8, (.ptr true g8 o8)), (9, v9), (12, (.int .i64 x12))], [[vc0_0, vc0_1, vc0_2, vc0_3, vc0_4]], gh⟩ = some (e, s) :=
  runX_ok an_ref_ConeOf (Eq.trans (by kernel_rfl) h)

noncomputable def D_ref_ConeOf_k8 (pg : Prg) (g6 : Nat) (o6 : Nat) (g8 : Nat) (o8 : Nat) (v9 : PV) (x13 : Int) (vc0_0 : PV) (vc0_1 : PV) (vc0_2 : PV) (vc0_3 : PV) (vc0_4 : PV) (gh : List GObj) : Option (IExit × St) := stK 1 v9 (some (.normal, ⟨[(2, (.ptr false 0 0)), (6, (.ptr true g6 o6)), (8, (.ptr true g8 o8)), (9, v9), (13, (.int .i64 (IntKind.i64.wrap (x13 + 1))))], [[vc0_0, vc0_1, vc0_2, vc0_3, vc0_4]], gh⟩))

theorem D_ref_ConeOf_k8_ok {pg : Prg} {gh : List GObj} {g6 : Nat} {o6 : Nat} {g8 : Nat} {o8 : Nat} {v9 : PV} {x13 : Int} {vc0_0 : PV} {vc0_1 : PV} {vc0_2 : PV} {vc0_3 : PV} {vc0_4 : PV} {e : IExit} {s : St} (h : D_ref_ConeOf_k8 pg g6 o6 g8 o8 v9 x13 vc0_0 vc0_1 vc0_2 vc0_3 vc0_4 gh = some (e, s)) : runL pg f_ref_ConeOf_k8 ⟨[(2, (.ptr false 0 0)), (6, (.ptr true g6 o6)), (8, (.ptr true g8 o8)), (9, v9), (13, (.int .i64 x13))], [[vc0_0, vc0_1, vc0_2, vc0_3, vc0_4]], gh⟩ = some (e, s) :=
  runX_ok an_ref_ConeOf (Eq.trans (by kernel_rfl) h)

noncomputable def D_ref_ConeOf_b5 (pg : Prg) (g6 : Nat) (o6 : Nat) (g8 : Nat) (o8 : Nat) (v9 : PV) (x13 : Int) (vc0_0 : PV) (vc0_1 : PV) (vc0_2 : PV) (vc0_3 : PV) (vc0_4 : PV) (gh : List GObj) : Option (IExit × St) := isC (degr vc0_2) (lenS (degr (degr vc0_2)) fun n1 => stK 1 v9 (
  br 113 (decide (x13 < (n1 : Int))) (
  ob (ghCells gh g6) fun cs2 => 
  ob (grab false 1 o6 cs2) fun v3 => isC (degr v3) (isC (degr vc0_2) (
  idX 2 none (degr (degr vc0_2)) x13 fun p4 => faX (degr p4) 0 fun p5 => 
  ldX [[vc0_0, vc0_1, vc0_2, vc0_3, vc0_4]] gh false 1 (degr p5) fun v6 => unI .i64 v6 fun n7 => 
  idX 1 none (degr (degr v3)) n7 fun p8 => 
  ldX [[vc0_0, vc0_1, vc0_2, vc0_3, vc0_4]] gh false 1 (degr p8) fun v10 => unB v10 fun b11 => stK 1 v9 (
  br 124 b11 (isC (degr v9) (isC (degr vc0_2) (
  idX 2 none (degr (degr vc0_2)) x13 fun p12 => faX (degr p12) 1 fun p13 => 
  ldX [[vc0_0, vc0_1, vc0_2, vc0_3, vc0_4]] gh false 1 (degr p13) fun v14 => unI .i64 v14 fun n15 => 
  fnX (degr (degr v9)) fun f18 cs19 => allK cs19 (callR gh false (callL pg f18 ([(.int .i64 n15)] ++ cs19) gh) fun r16 gh17 => stK 1 v9 (stK 1 v9 (
  kR (runL pg f_ref_ConeOf_k8 ⟨[(2, (.ptr false 0 0)), (6, (.ptr true g6 o6)), (8, (.ptr true g8 o8)), (9, v9), (13, (.int .i64 x13))], [[vc0_0, vc0_1, vc0_2, vc0_3, vc0_4]], gh17⟩) (fun e s => po [2, 6, 8, 9, 13] 1 e s (fun e s => some (e, s))))))))) (stK 1 v9 (
  kR (runL pg f_ref_ConeOf_k8 ⟨[(2, (.ptr false 0 0)), (6, (.ptr true g6 o6)), (8, (.ptr true g8 o8)), (9, v9), (13, (.int .i64 x13))], [[vc0_0, vc0_1, vc0_2, vc0_3, vc0_4]], gh⟩) (fun e s => po [2, 6, 8, 9, 13] 1 e s (fun e s => some (e, s))))))))) (some ((.exit 8), ⟨[(2, (.ptr false 0 0)), (6, (.ptr true g6 o6)), (8, (.ptr true g8 o8)), (9, v9), (13, (.int .i64 x13)), (113, (.bool (decide (x13 < (n1 : Int)))))], [[vc0_0, vc0_1, vc0_2, vc0_3, vc0_4]], gh⟩))))

theorem D_ref_ConeOf_b5_ok {pg : Prg} {gh : List GObj} {g6 : Nat} {o6 : Nat} {g8 : Nat} {o8 : Nat} {v9 : PV} {x13 : Int} {vc0_0 : PV} {vc0_1 : PV} {vc0_2 : PV} {vc0_3 : PV} {vc0_4 : PV} {e : IExit} {s : St} (h : D_ref_ConeOf_b5 pg g6 o6 g8 o8 v9 x13 vc0_0 vc0_1 vc0_2 vc0_3 vc0_4 gh = some (e, s)) : runL pg f_ref_ConeOf_b5 ⟨[(2, (.ptr false 0 0)), (6, (.ptr true g6 o6)), (8, (.ptr true g8 o8)), (9, v9), (13, (.int .i64 x13))], [[vc0_0, vc0_1, vc0_2, vc0_3, vc0_4]], gh⟩ = some (e, s) :=
  runX_ok an_ref_ConeOf (Eq.trans (by kernel_rfl) h)

noncomputable def D_ref_ConeOf_k7 (pg : Prg) (g6 : Nat) (o6 : Nat) (g8 : Nat) (o8 : Nat) (v9 : PV) (vc0_0 : PV) (vc0_1 : PV) (vc0_2 : PV) (vc0_3 : PV) (vc0_4 : PV) (gh : List GObj) : Option (IExit × St) := stK 1 v9 (
  kR (runL pg f_ref_ConeOf_l5 ⟨[(2, (.ptr false 0 0)), (6, (.ptr true g6 o6)), (8, (.ptr true g8 o8)), (9, v9), (13, (.int .i64 0))], [[vc0_0, vc0_1, vc0_2, vc0_3, vc0_4]], gh⟩) (fun e s => some (e, s)))

theorem D_ref_ConeOf_k7_ok {pg : Prg} {gh : List GObj} {g6 : Nat} {o6 : Nat} {g8 : Nat} {o8 : Nat} {v9 : PV} {vc0_0 : PV} {vc0_1 : PV} {vc0_2 : PV} {vc0_3 : PV} {vc0_4 : PV} {e : IExit} {s : St} (h : D_ref_ConeOf_k7 pg g6 o6 g8 o8 v9 vc0_0 vc0_1 vc0_2 vc0_3 vc0_4 gh = some (e, s)) : runL pg f_ref_ConeOf_k7 ⟨[(2, (.ptr false 0 0)), (6, (.ptr true g6 o6)), (8, (.ptr true g8 o8)), (9, v9)], [[vc0_0, vc0_1, vc0_2, vc0_3, vc0_4]], gh⟩ = some (e, s) :=
  runX_ok an_ref_ConeOf (Eq.trans (by kernel_rfl) h)

noncomputable def D_ref_ConeOf_k5 (pg : Prg) (g6 : Nat) (o6 : Nat) (g8 : Nat) (o8 : Nat) (v9 : PV) (vc0_0 : PV) (vc0_1 : PV) (vc0_2 : PV) (vc0_3 : PV) (vc0_4 : PV) (gh : List GObj) : Option (IExit × St) := stK 1 v9 (
  kR (runL pg f_ref_ConeOf_l4 ⟨[(2, (.ptr false 0 0)), (6, (.ptr true g6 o6)), (8, (.ptr true g8 o8)), (9, v9), (12, (.int .i64 0))], [[vc0_0, vc0_1, vc0_2, vc0_3, vc0_4]], gh⟩) (fun e s => nx e s (fun e s => some (e, s)) fun s => kR (runL pg f_ref_ConeOf_k7 s) (fun e s => some (e, s))))

theorem D_ref_ConeOf_k5_ok {pg : Prg} {gh : List GObj} {g6 : Nat} {o6 : Nat} {g8 : Nat} {o8 : Nat} {v9 : PV} {vc0_0 : PV} {vc0_1 : PV} {vc0_2 : PV} {vc0_3 : PV} {vc0_4 : PV} {e : IExit} {s : St} (h : D_ref_ConeOf_k5 pg g6 o6 g8 o8 v9 vc0_0 vc0_1 vc0_2 vc0_3 vc0_4 gh = some (e, s)) : runL pg f_ref_ConeOf_k5 ⟨[(2, (.ptr false 0 0)), (6, (.ptr true g6 o6)), (8, (.ptr true g8 o8)), (9, v9)], [[vc0_0, vc0_1, vc0_2, vc0_3, vc0_4]], gh⟩ = some (e, s) :=
  runX_ok an_ref_ConeOf (Eq.trans (by kernel_rfl) h)

noncomputable def D_ref_ConeOf_k9 (pg : Prg) (g6 : Nat) (o6 : Nat) (g8 : Nat) (o8 : Nat) (vc0_0 : PV) (vc0_1 : PV) (vc0_2 : PV) (vc0_3 : PV) (vc0_4 : PV) (gh : List GObj) : Option (IExit × St) := 
  ob (ghCells gh g8) fun cs1 => 
  ob (grab false 1 o8 cs1) fun v2 => unB (degr v2) fun b3 => 
  ob (ghCells (gh ++ [.cells [(.bool false)]]) (List.length gh)) fun cs4 => gb (stOk 1 0 [(.bool b3)] cs4) (some (.normal, ⟨[(2, (.ptr false 0 0)), (6, (.ptr true g6 o6)), (8, (.ptr true (List.length gh) 0))], [[vc0_0, vc0_1, vc0_2, vc0_3, vc0_4]], (List.set (gh ++ [.cells [(.bool false)]]) (List.length gh) (.cells (spliceAt cs4 0 [(.bool b3)])))⟩))

theorem D_ref_ConeOf_k9_ok {pg : Prg} {gh : List GObj} {g6 : Nat} {o6 : Nat} {g8 : Nat} {o8 : Nat} {vc0_0 : PV} {vc0_1 : PV} {vc0_2 : PV} {vc0_3 : PV} {vc0_4 : PV} {e : IExit} {s : St} (h : D_ref_ConeOf_k9 pg g6 o6 g8 o8 vc0_0 vc0_1 vc0_2 vc0_3 vc0_4 gh = some (e, s)) : runL pg f_ref_ConeOf_k9 ⟨[(2, (.ptr false 0 0)), (6, (.ptr true g6 o6)), (8, (.ptr true g8 o8))], [[vc0_0, vc0_1, vc0_2, vc0_3, vc0_4]], gh⟩ = some (e, s) :=
  runX_ok an_ref_ConeOf (Eq.trans (by kernel_rfl) h)

noncomputable def D_ref_ConeOf_b2 (pg : Prg) (g6 : Nat) (o6 : Nat) (g8 : Nat) (o8 : Nat) (vc0_0 : PV) (vc0_1 : PV) (vc0_2 : PV) (vc0_3 : PV) (vc0_4 : PV) (gh : List GObj) : Option (IExit × St) := 
  ob (ghCells gh g8) fun cs1 => 
  ob (grab false 1 o8 cs1) fun v2 => unB (degr v2) fun b3 => 
  br 42 b3 (
  ob (ghCells gh g8) fun cs4 => gb (stOk 1 o8 [(.bool false)] cs4) (
  kR (runL pg f_ref_ConeOf_l3 ⟨[(2, (.ptr false 0 0)), (6, (.ptr true g6 o6)), (8, (.ptr true g8 o8)), (9, (.fn 84 [(.ptr true g6 o6), (.ptr true g8 o8)])), (10, (.int .i64 0))], [[vc0_0, vc0_1, vc0_2, vc0_3, vc0_4]], (List.set gh g8 (.cells (spliceAt cs4 o8 [(.bool false)])))⟩) (fun e s => nx e s (fun e s => bk 3 e s (fun e s => nx e s (fun e s => po [2, 6, 8] 1 e s (fun e s => some (e, s))) fun s => kR (runL pg f_ref_ConeOf_k9 s) (fun e s => po [2, 6, 8] 1 e s (fun e s => some (e, s))))) fun s => kR (runL pg f_ref_ConeOf_k5 s) (fun e s => bk 3 e s (fun e s => nx e s (fun e s => po [2, 6, 8] 1 e s (fun e s => some (e, s))) fun s => kR (runL pg f_ref_ConeOf_k9 s) (fun e s => po [2, 6, 8] 1 e s (fun e s => some (e, s)))))))) (some ((.exit 2), ⟨[(2, (.ptr false 0 0)), (6, (.ptr true g6 o6)), (8, (.ptr true g8 o8)), (42, (.bool b3))], [[vc0_0, vc0_1, vc0_2, vc0_3, vc0_4]], gh⟩))

theorem D_ref_ConeOf_b2_ok {pg : Prg} {gh : List GObj} {g6 : Nat} {o6 : Nat} {g8 : Nat} {o8 : Nat} {vc0_0 : PV} {vc0_1 : PV} {vc0_2 : PV} {vc0_3 : PV} {vc0_4 : PV} {e : IExit} {s : St} (h : D_ref_ConeOf_b2 pg g6 o6 g8 o8 vc0_0 vc0_1 vc0_2 vc0_3 vc0_4 gh = some (e, s)) : runL pg f_ref_ConeOf_b2 ⟨[(2, (.ptr false 0 0)), (6, (.ptr true g6 o6)), (8, (.ptr true g8 o8))], [[vc0_0, vc0_1, vc0_2, vc0_3, vc0_4]], gh⟩ = some (e, s) :=
  runX_ok an_ref_ConeOf (Eq.trans (by kernel_rfl) h)

noncomputable def D_ref_ConeOf_k11 (pg : Prg) (g6 : Nat) (o6 : Nat) (v14 : PV) (x15 : Int) (gh : List GObj) : Option (IExit × St) := stK 0 v14 (some (.normal, ⟨[(6, (.ptr true g6 o6)), (14, v14), (15, (.int .i64 (IntKind.i64.wrap (x15 + 1))))], [], gh⟩))

theorem D_ref_ConeOf_k11_ok {pg : Prg} {gh : List GObj} {g6 : Nat} {o6 : Nat} {v14 : PV} {x15 : Int} {e : IExit} {s : St} (h : D_ref_ConeOf_k11 pg g6 o6 v14 x15 gh = some (e, s)) : runL pg f_ref_ConeOf_k11 ⟨[(6, (.ptr true g6 o6)), (14, v14), (15, (.int .i64 x15))], [], gh⟩ = some (e, s) :=
  runX_ok an_ref_ConeOf (Eq.trans (by kernel_rfl) h)

noncomputable def D_ref_ConeOf_b6 (pg : Prg) (g6 : Nat) (o6 : Nat) (v14 : PV) (x15 : Int) (gh : List GObj) : Option (IExit × St) := 
  ob (ghCells gh g6) fun cs1 => 
  ob (grab false 1 o6 cs1) fun v2 => isC (degr v2) (lenS (degr (degr v2)) fun n3 => stK 0 v14 (
  br 137 (decide (x15 < (n3 : Int))) (
  ob (ghCells gh g6) fun cs4 => 
  ob (grab false 1 o6 cs4) fun v5 => isC (degr v5) (
  idX 1 none (degr (degr v5)) x15 fun p6 => 
  ldX [] gh false 1 (degr p6) fun v7 => unB v7 fun b8 => stK 0 v14 (
  br 143 b8 (
  apX 1 8 v14 (.sl false 1 [(.int .i64 x15)]) fun l9 => 
  kR (runL pg f_ref_ConeOf_k11 ⟨[(6, (.ptr true g6 o6)), (14, (.sl true 1 l9)), (15, (.int .i64 x15))], [], gh⟩) (fun e s => po [6, 14, 15] 0 e s (fun e s => some (e, s)))) (stK 0 v14 (
  kR (runL pg f_ref_ConeOf_k11 ⟨[(6, (.ptr true g6 o6)), (14, v14), (15, (.int .i64 x15))], [], gh⟩) (fun e s => po [6, 14, 15] 0 e s (fun e s => some (e, s)))))))) (some ((.exit 10), ⟨[(6, (.ptr true g6 o6)), (14, v14), (15, (.int .i64 x15)), (137, (.bool (decide (x15 < (n3 : Int)))))], [], gh⟩))))

theorem D_ref_ConeOf_b6_ok {pg : Prg} {gh : List GObj} {g6 : Nat} {o6 : Nat} {v14 : PV} {x15 : Int} {e : IExit} {s : St} (h : D_ref_ConeOf_b6 pg g6 o6 v14 x15 gh = some (e, s)) : runL pg f_ref_ConeOf_b6 ⟨[(6, (.ptr true g6 o6)), (14, v14), (15, (.int .i64 x15))], [], gh⟩ = some (e, s) :=
  runX_ok an_ref_ConeOf (Eq.trans (by kernel_rfl) h)

noncomputable def D_ref_ConeOf_k12 (pg : Prg) (v14 : PV) (gh : List GObj) : Option (IExit × St) := isC (degr v14) (stK 0 (degr v14) (some (.ret, ⟨[(4, (degr v14)), (5, (.bool true))], [], gh⟩)))

theorem D_ref_ConeOf_k12_ok {pg : Prg} {gh : List GObj} {v14 : PV} {e : IExit} {s : St} (h : D_ref_ConeOf_k12 pg v14 gh = some (e, s)) : runL pg f_ref_ConeOf_k12 ⟨[(14, v14)], [], gh⟩ = some (e, s) :=
  runX_ok an_ref_ConeOf (Eq.trans (by kernel_rfl) h)

noncomputable def D_ref_ConeOf_k10 (pg : Prg) (g6 : Nat) (o6 : Nat) (gh : List GObj) : Option (IExit × St) := 
  kR (runL pg f_ref_ConeOf_l6 ⟨[(6, (.ptr true g6 o6)), (14, (.sl true 1 [])), (15, (.int .i64 0))], [], gh⟩) (fun e s => nx e s (fun e s => some (e, s)) fun s => kR (runL pg f_ref_ConeOf_k12 s) (fun e s => some (e, s)))

theorem D_ref_ConeOf_k10_ok {pg : Prg} {gh : List GObj} {g6 : Nat} {o6 : Nat} {e : IExit} {s : St} (h : D_ref_ConeOf_k10 pg g6 o6 gh = some (e, s)) : runL pg f_ref_ConeOf_k10 ⟨[(6, (.ptr true g6 o6))], [], gh⟩ = some (e, s) :=
  runX_ok an_ref_ConeOf (Eq.trans (by kernel_rfl) h)

noncomputable def D_ref_ConeOf_k1 (pg : Prg) (g6 : Nat) (o6 : Nat) (vc0_0 : PV) (vc0_1 : PV) (vc0_2 : PV) (vc0_3 : PV) (vc0_4 : PV) (gh : List GObj) : Option (IExit × St) := 
  ob (ghCells (gh ++ [.cells [(.bool false)]]) (List.length gh)) fun cs1 => gb (stOk 1 0 [(.bool true)] cs1) (
  kR (runL pg f_ref_ConeOf_l2 ⟨[(2, (.ptr false 0 0)), (6, (.ptr true g6 o6)), (8, (.ptr true (List.length gh) 0))], [[vc0_0, vc0_1, vc0_2, vc0_3, vc0_4]], (List.set (gh ++ [.cells [(.bool false)]]) (List.length gh) (.cells (spliceAt cs1 0 [(.bool true)])))⟩) (fun e s => nx e s (fun e s => some (e, s)) fun s => kR (runL pg f_ref_ConeOf_k10 s) (fun e s => some (e, s))))

theorem D_ref_ConeOf_k1_ok {pg : Prg} {gh : List GObj} {g6 : Nat} {o6 : Nat} {vc0_0 : PV} {vc0_1 : PV} {vc0_2 : PV} {vc0_3 : PV} {vc0_4 : PV} {e : IExit} {s : St} (h : D_ref_ConeOf_k1 pg g6 o6 vc0_0 vc0_1 vc0_2 vc0_3 vc0_4 gh = some (e, s)) : runL pg f_ref_ConeOf_k1 ⟨[(2, (.ptr false 0 0)), (6, (.ptr true g6 o6))], [[vc0_0, vc0_1, vc0_2, vc0_3, vc0_4]], gh⟩ = some (e, s) :=
  runX_ok an_ref_ConeOf (Eq.trans (by kernel_rfl) h)

noncomputable def D_ref_ConeOf_0 (pg : Prg) (v0_0 : PV) (v0_1 : PV) (v0_2 : PV) (v0_3 : PV) (v0_4 : PV) (v1 : PV) (gh : List GObj) : Option (IExit × St) := onK (degr1 v0_0) (onK (degr1 v0_1) (onK (degr1 v0_2) (onK (degr1 v0_3) (onK (degr1 v0_4) (stK 1 v1 (isC (degr (degr1 v0_0)) (lenS (degr (degr (degr1 v0_0))) fun n1 => gd (mkOk (n1 : Int) 1 1 (.bool false)) (
  ob (ghCells ((gh ++ [.cells (List.flatMap PV.cells (List.replicate (Int.toNat (n1 : Int)) (.bool false)))]) ++ [.cells [(.sl true 1 [])]]) (List.length (gh ++ [.cells (List.flatMap PV.cells (List.replicate (Int.toNat (n1 : Int)) (.bool false)))]))) fun cs2 => gb (stOk 1 0 [(.bs true (List.length gh) 0 (Int.toNat (n1 : Int)) 1)] cs2) (stK 1 v1 (stK 1 v1 (
  kR (runL pg f_ref_ConeOf_l1 ⟨[(1, v1), (2, (.ptr false 0 0)), (6, (.ptr true (List.length (gh ++ [.cells (List.flatMap PV.cells (List.replicate (Int.toNat (n1 : Int)) (.bool false)))])) 0)), (7, (.int .i64 0))], [[(degr1 v0_0), (degr1 v0_1), (degr1 v0_2), (degr1 v0_3), (degr1 v0_4)]], (List.set ((gh ++ [.cells (List.flatMap PV.cells (List.replicate (Int.toNat (n1 : Int)) (.bool false)))]) ++ [.cells [(.sl true 1 [])]]) (List.length (gh ++ [.cells (List.flatMap PV.cells (List.replicate (Int.toNat (n1 : Int)) (.bool false)))])) (.cells (spliceAt cs2 0 [(.bs true (List.length gh) 0 (Int.toNat (n1 : Int)) 1)])))⟩) (fun e s => nx e s (fun e s => some (e, s)) fun s => kR (runL pg f_ref_ConeOf_k1 s) (fun e s => some (e, s))))))))))))))

theorem D_ref_ConeOf_0_ok {pg : Prg} {gh : List GObj} {v0_0 : PV} {v0_1 : PV} {v0_2 : PV} {v0_3 : PV} {v0_4 : PV} {v1 : PV} {e : IExit} {s : St} (h : D_ref_ConeOf_0 pg v0_0 v0_1 v0_2 v0_3 v0_4 v1 gh = some (e, s)) : runL pg f_ref_ConeOf_0 ⟨[(0, (.agg [v0_0, v0_1, v0_2, v0_3, v0_4])), (1, v1)], [], gh⟩ = some (e, s) :=
  runX_ok an_ref_ConeOf (Eq.trans (by kernel_rfl) h)

end Go.Lw
end

/-! What the code of function ref_ConeOf_1 comes to, piece by piece. Written by program (dprint.py). -/
section
set_option maxRecDepth 10000
set_option maxHeartbeats 4000000
namespace Go.Lw
open Go

def an_ref_ConeOf_1 : Tr := (.node 7 (.ce (.bool)) (.node 2 (.ce (.gp)) (.node 1 (.ce (.gp)) (.node 0 (.ce (.int .i64)) .nil .nil) .nil) (.node 5 (.ce (.int .i64)) (.node 4 (.ce (.one)) .nil .nil) .nil)) (.node 10 (.ce (.int .i64)) (.node 9 (.ce (.one)) (.node 8 (.ce (.bool)) .nil .nil) .nil) (.node 11 (.ce (.gp)) .nil .nil)))

noncomputable def D_ref_ConeOf_1_0 (pg : Prg) (x0 : Int) (g1 : Nat) (o1 : Nat) (g2 : Nat) (o2 : Nat) (gh : List GObj) : Option (IExit × St) := 
  ob (ghCells gh g1) fun cs1 => 
  ob (grab false 1 o1 cs1) fun v2 => isC (degr v2) (
  idX 1 none (degr (degr v2)) x0 fun p3 => 
  ldX [] gh false 1 (degr p3) fun v4 => unB v4 fun b5 => 
  br 8 (!b5) (
  ob (ghCells gh g1) fun cs6 => 
  ob (grab false 1 o1 cs6) fun v7 => isC (degr v7) (
  idX 1 none (degr (degr v7)) x0 fun p8 => unG p8 fun g9 o10 => 
  ob (ghCells gh g9) fun cs11 => gb (stOk 1 o10 [(.bool true)] cs11) (
  ob (ghCells (List.set gh g9 (.cells (spliceAt cs11 o10 [(.bool true)]))) g2) fun cs12 => gb (stOk 1 o2 [(.bool true)] cs12) (some (.normal, ⟨[], [], (List.set (List.set gh g9 (.cells (spliceAt cs11 o10 [(.bool true)]))) g2 (.cells (spliceAt cs12 o2 [(.bool true)])))⟩))))) (some (.normal, ⟨[], [], gh⟩)))

theorem D_ref_ConeOf_1_0_ok {pg : Prg} {gh : List GObj} {x0 : Int} {g1 : Nat} {o1 : Nat} {g2 : Nat} {o2 : Nat} {e : IExit} {s : St} (h : D_ref_ConeOf_1_0 pg x0 g1 o1 g2 o2 gh = some (e, s)) : runL pg f_ref_ConeOf_1_0 ⟨[(0, (.int .i64 x0)), (1, (.ptr true g1 o1)), (2, (.ptr true g2 o2))], [], gh⟩ = some (e, s) :=
  runX_ok an_ref_ConeOf_1 (Eq.trans (by kernel_rfl) h)

end Go.Lw
end

/-! What the code of function law_ModelCones comes to, piece by piece. Written by program (dprint.py). -/
section
set_option maxRecDepth 10000
set_option maxHeartbeats 4000000
namespace Go.Lw
open Go

def an_law_ModelCones : Tr := (.node 19 (.ce (.int .i64)) (.node 10 (.ce (.bool)) (.node 6 (.ce (.int .i64)) (.node 4 (.ce (.bool)) (.node 1 (.ce (.one)) (.node 0 (.agg [.any, .any, .any, .any, .any]) .nil .nil) .nil) (.node 5 (.ce (.one)) .nil .nil)) (.node 8 (.ce (.one)) (.node 7 (.ce (.int .i64)) .nil .nil) (.node 9 (.ce (.one)) .nil .nil))) (.node 15 (.ce (.one)) (.node 13 (.ce (.one)) (.node 12 (.agg [.any, .any, .any, .any, .any]) (.node 11 (.tup 2) .nil .nil) .nil) (.node 14 (.tup 2) .nil .nil)) (.node 17 (.agg [.any, .any, .any, .any, .any]) (.node 16 (.ce (.int .i64)) .nil .nil) (.node 18 (.ce (.int .i64)) .nil .nil)))) (.node 28 (.ce (.one)) (.node 24 (.tup 2) (.node 22 (.agg [.any, .any, .any, .any, .any]) (.node 21 (.tup 2) (.node 20 (.ce (.bool)) .nil .nil) .nil) (.node 23 (.ce (.one)) .nil .nil)) (.node 26 (.ce (.bool)) (.node 25 (.ce (.one)) .nil .nil) (.node 27 (.ce (.bool)) .nil .nil))) (.node 33 (.ce (.int .i64)) (.node 31 (.ce (.one)) (.node 30 (.ce (.bool)) (.node 29 (.ce (.bool)) .nil .nil) .nil) (.node 32 (.ce (.int .i64)) .nil .nil)) (.node 35 (.ce (.bool)) (.node 34 (.ce (.one)) .nil .nil) (.node 36 (.ce (.bool)) .nil .nil)))))

noncomputable def D_law_ModelCones_k1 (pg : Prg) (v5 : PV) (x6 : Int) (x7 : Int) (v8 : PV) (gh : List GObj) : Option (IExit × St) := 
  callR gh true (callL pg 37 [] gh) fun r1 gh2 => unB r1 fun b3 => 
  br 30 b3 (isC (degr v5) (isC (degr v8) (arK (degr (degr v5)) (arK (degr (degr v8)) (
  callR gh2 true (callL pg 40 [(degr (degr v5)), (.int .i64 x6), (.int .i64 x7), (degr (degr v8))] gh2) fun r4 gh5 => unB r4 fun b6 => some (.ret, ⟨[(4, (.bool b6))], [], gh5⟩)))))) (some (.ret, ⟨[(4, (.bool false))], [], gh2⟩))

theorem D_law_ModelCones_k1_ok {pg : Prg} {gh : List GObj} {v5 : PV} {x6 : Int} {x7 : Int} {v8 : PV} {e : IExit} {s : St} (h : D_law_ModelCones_k1 pg v5 x6 x7 v8 gh = some (e, s)) : runL pg f_law_ModelCones_k1 ⟨[(5, v5), (6, (.int .i64 x6)), (7, (.int .i64 x7)), (8, v8)], [], gh⟩ = some (e, s) :=
  runX_ok an_law_ModelCones (Eq.trans (by kernel_rfl) h)

noncomputable def D_law_ModelCones_0 (pg : Prg) (v0_0 : PV) (v0_1 : PV) (v0_2 : PV) (v0_3 : PV) (v0_4 : PV) (v1 : PV) (gh : List GObj) : Option (IExit × St) := onK (degr1 v0_0) (onK (degr1 v0_1) (onK (degr1 v0_2) (onK (degr1 v0_3) (onK (degr1 v0_4) (stK 1 v1 (isC (degr v1) (onK (degr1 (degr1 (degr1 v0_0))) (onK (degr1 (degr1 (degr1 v0_1))) (onK (degr1 (degr1 (degr1 v0_2))) (onK (degr1 (degr1 (degr1 v0_3))) (onK (degr1 (degr1 (degr1 v0_4))) (arK (degr (degr v1)) (
  callR gh true (callL pg 42 [(.agg [(degr1 (degr1 (degr1 v0_0))), (degr1 (degr1 (degr1 v0_1))), (degr1 (degr1 (degr1 v0_2))), (degr1 (degr1 (degr1 v0_3))), (degr1 (degr1 (degr1 v0_4)))]), (degr (degr v1))] gh) fun r1 gh2 => unT 2 r1 fun r3 r4 => isC (degr1 (degr1 r3)) (unI .i64 (degr1 (degr1 r4)) fun n5 => stK 1 v1 (stK 1 (degr1 (degr1 r3)) (onK (degr1 (degr1 (degr1 v0_0))) (onK (degr1 (degr1 (degr1 v0_1))) (onK (degr1 (degr1 (degr1 v0_2))) (onK (degr1 (degr1 (degr1 v0_3))) (onK (degr1 (degr1 (degr1 v0_4))) (
  callR gh2 true (callL pg 36 [(.agg [(degr1 (degr1 (degr1 v0_0))), (degr1 (degr1 (degr1 v0_1))), (degr1 (degr1 (degr1 v0_2))), (degr1 (degr1 (degr1 v0_3))), (degr1 (degr1 (degr1 v0_4)))])] gh2) fun r6 gh7 => unI .i64 r6 fun n8 => stK 1 v1 (stK 1 (degr1 (degr1 r3)) (stK 1 v1 (stK 1 (degr1 (degr1 r3)) (
  br 20 (n8 == 0) (isC (degr v1) (onK (degr1 (degr1 (degr1 v0_0))) (onK (degr1 (degr1 (degr1 v0_1))) (onK (degr1 (degr1 (degr1 v0_2))) (onK (degr1 (degr1 (degr1 v0_3))) (onK (degr1 (degr1 (degr1 v0_4))) (arK (degr (degr v1)) (
  callR gh7 true (callL pg 43 [(.agg [(degr1 (degr1 (degr1 v0_0))), (degr1 (degr1 (degr1 v0_1))), (degr1 (degr1 (degr1 v0_2))), (degr1 (degr1 (degr1 v0_3))), (degr1 (degr1 (degr1 v0_4)))]), (degr (degr v1))] gh7) fun r9 gh10 => unT 2 r9 fun r11 r12 => isC (degr1 (degr1 r11)) (unB (degr1 (degr1 r12)) fun b13 => stK 0 (degr1 (degr1 r3)) (stK 0 (degr1 (degr1 r11)) (stK 0 (degr1 (degr1 r3)) (stK 0 (degr1 (degr1 r11)) (
  br 27 b13 (isC (degr (degr1 (degr1 r11))) (stK 0 (degr1 (degr1 r3)) (stK 0 (degr (degr1 (degr1 r11))) (stK 0 (degr1 (degr1 r3)) (stK 0 (degr (degr1 (degr1 r11))) (stK 0 (degr1 (degr1 r3)) (stK 0 (degr (degr1 (degr1 r11))) (
  kR (runL pg f_law_ModelCones_k1 ⟨[(5, (degr1 (degr1 r3))), (6, (.int .i64 n5)), (7, (.int .i64 n8)), (8, (degr (degr1 (degr1 r11))))], [], gh10⟩) (fun e s => some (e, s)))))))))) (stK 0 (degr1 (degr1 r3)) (stK 0 (degr1 (degr1 r3)) (stK 0 (degr1 (degr1 r3)) (
  kR (runL pg f_law_ModelCones_k1 ⟨[(5, (degr1 (degr1 r3))), (6, (.int .i64 n5)), (7, (.int .i64 5)), (8, (.sl true 1 []))], [], gh10⟩) (fun e s => some (e, s))))))))))))))))))) (stK 0 (degr1 (degr1 r3)) (
  kR (runL pg f_law_ModelCones_k1 ⟨[(5, (degr1 (degr1 r3))), (6, (.int .i64 n5)), (7, (.int .i64 n8)), (8, (.sl true 1 []))], [], gh7⟩) (fun e s => some (e, s)))))))))))))))))))))))))))))

theorem D_law_ModelCones_0_ok {pg : Prg} {gh : List GObj} {v0_0 : PV} {v0_1 : PV} {v0_2 : PV} {v0_3 : PV} {v0_4 : PV} {v1 : PV} {e : IExit} {s : St} (h : D_law_ModelCones_0 pg v0_0 v0_1 v0_2 v0_3 v0_4 v1 gh = some (e, s)) : runL pg f_law_ModelCones_0 ⟨[(0, (.agg [v0_0, v0_1, v0_2, v0_3, v0_4])), (1, v1)], [], gh⟩ = some (e, s) :=
  runX_ok an_law_ModelCones (Eq.trans (by kernel_rfl) h)

end Go.Lw
end
