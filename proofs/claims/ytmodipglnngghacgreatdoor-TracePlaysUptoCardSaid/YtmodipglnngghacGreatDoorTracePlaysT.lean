/-
  The texts that the proof stands on, part 20.
-/
import Derived.Test.YtmodipglnngghacGreatDoorTracePlaysS
import Derived.Sort.Grow
set_option linter.unusedVariables false
set_option linter.unusedSimpArgs false
set_option linter.unnecessarySimpa false

/-! A stack of numbers, handed over as a row of cells. -/
section
namespace Go.Lw
open Go Go.Sort
section
variable {fi : FI} {M M' : Mem} {w w' W : World} {P : Program}
theorem jrd {b k : Nat} (h : W.heap[b]? = w.heap[b]?) : W.cell? ⟨b, k, none⟩ = w.cell? ⟨b, k, none⟩ := by
 simp [World.cell?, h]
end
end Go.Lw
end

/-! The law GatesAnds, of the machine: it answers true. -/
section
namespace Go.Lw
open Go
section
variable {ins : Int} {ands : List (Int × Int)} {gh : List GObj}
end
theorem csOk_slice {g : Bool} {bytes : Nat} {l : List CS} {p : PV} (h : csOk (.slice g bytes l) p) : ∃ xs, p = .sl false l.length xs ∧ xs.length * bytes ≤ reachBytes ∧ ∀ e ∈ xs, (g = true ∧ ∃ ps, e = .agg ps ∧ csAll l ps) ∨ (g = false ∧ csAll l [e]) := by
 unfold csOk at h; exact h
theorem jmq : ∀ {xs : List PV}, (∀ e ∈ xs, (true = true ∧ ∃ ps, e = .agg ps ∧ csAll [.int, .int] ps) ∨ (true = false ∧ csAll [.int, .int] [e])) → ∃ ands, RA ands ∧ xs = ands.map andV
 | [], _ => ⟨[], fun x h => (by cases h), rfl⟩
 | e :: xs, h => by
  obtain ⟨ands, hr, rfl⟩ := jmq (xs := xs) fun e he => h e (List.mem_cons_of_mem _ he)
  rcases h e (by simp) with ⟨-, ps, rfl, hp⟩ | ⟨h, -⟩
  ·obtain ⟨_, _, rfl, g0, hp⟩ := jiq hp
   obtain ⟨_, _, rfl, g1, hp⟩ := jiq hp
   obtain rfl := jjp hp
   obtain ⟨a, rfl, ha⟩ := jj0 g0
   obtain ⟨b, rfl, hb⟩ := jj0 g1
   refine ⟨(a, b) :: ands, fun x hx => ?_, rfl⟩
   rcases List.mem_cons.1 hx with rfl | hx
   ·exact ⟨ha, hb⟩
   ·exact hr x hx
  ·cases h
end Go.Lw
end

/-! The law GatesEvals, of the machine: it answers true. -/
section
namespace Go.Lw
open Go
section
variable {ins : Int} {ands : List (Int × Int)} {gh : List GObj}
end
def RI (l : List Int) : Prop := ∀ x ∈ l, -9223372036854775808 ≤ x ∧ x ≤ 9223372036854775807
theorem int_list : ∀ {xs : List PV}, (∀ e ∈ xs, (false = true ∧ ∃ ps, e = .agg ps ∧ csAll [.int] ps) ∨ (false = false ∧ csAll [.int] [e])) → ∃ v : List Int, RI v ∧ xs = v.map I
 | [], _ => ⟨[], fun x h => (by cases h), rfl⟩
 | e :: xs, h => by
  obtain ⟨v, hr, rfl⟩ := int_list (xs := xs) fun e he => h e (List.mem_cons_of_mem _ he)
  rcases h e (by simp) with ⟨h, -⟩ | ⟨-, hp⟩
  ·cases h
  ·obtain ⟨_, _, e1, g0, hp⟩ := jiq hp
   cases jjp hp
   simp only [List.cons.injEq, and_true] at e1
   subst e1
   obtain ⟨b, rfl, hb⟩ := jj0 g0
   refine ⟨b :: v, fun x hx => ?_, rfl⟩
   rcases List.mem_cons.1 hx with rfl | hx
   ·exact hb
   ·exact hr x hx
end Go.Lw
end

/-! Models: what must be in any case, lists compared, and models out of rows. -/
section
namespace Go.Lw
open Go
section
variable {m : Md} {gh : List GObj}
end
abbrev modelC : List CS := [.slice true 48 [.int, .int, .int, .int, .int, .int], .slice true 16 [.int, .int], .slice true 16 [.int, .int], .slice false 8 [.int], .slice false 8 [.int]]
structure MdOk (m : Md) : Prop where
 nodes : m.nodes.length * 48 ≤ reachBytes
 inits : m.inits.length * 16 ≤ reachBytes
 nexts : m.nexts.length * 16 ≤ reachBytes
 bads : m.bads.length * 8 ≤ reachBytes
 holds : m.holds.length * 8 ≤ reachBytes
theorem jpw : ∀ {xs : List PV}, (∀ e ∈ xs, (true = true ∧ ∃ ps, e = .agg ps ∧ csAll [.int, .int, .int, .int, .int, .int] ps) ∨ (true = false ∧ csAll [.int, .int, .int, .int, .int, .int] [e])) → ∃ l : List Nd, xs = l.map nodeV
 | [], _ => ⟨[], rfl⟩
 | e :: xs, h => by
  obtain ⟨l, rfl⟩ := jpw (xs := xs) fun e he => h e (List.mem_cons_of_mem _ he)
  rcases h e (by simp) with ⟨-, ps, rfl, hp⟩ | ⟨h, -⟩
  ·obtain ⟨_, _, rfl, g0, hp⟩ := jiq hp
   obtain ⟨_, _, rfl, g1, hp⟩ := jiq hp
   obtain ⟨_, _, rfl, g2, hp⟩ := jiq hp
   obtain ⟨_, _, rfl, g3, hp⟩ := jiq hp
   obtain ⟨_, _, rfl, g4, hp⟩ := jiq hp
   obtain ⟨_, _, rfl, g5, hp⟩ := jiq hp
   obtain rfl := jjp hp
   obtain ⟨a0, rfl, -⟩ := jj0 g0
   obtain ⟨a1, rfl, -⟩ := jj0 g1
   obtain ⟨a2, rfl, -⟩ := jj0 g2
   obtain ⟨a3, rfl, -⟩ := jj0 g3
   obtain ⟨a4, rfl, -⟩ := jj0 g4
   obtain ⟨a5, rfl, -⟩ := jj0 g5
   exact ⟨⟨a0, a1, a2, a3, a4, a5⟩ :: l, rfl⟩
  ·cases h
theorem jwq {p : PV} (h : argTy (true, modelC) p) : ∃ m, p = modelV m ∧ MdOk m := by
 obtain ⟨ps, rfl, hp⟩ := jol h
 obtain ⟨_, _, rfl, g0, hp⟩ := jiq hp
 obtain ⟨_, _, rfl, g1, hp⟩ := jiq hp
 obtain ⟨_, _, rfl, g2, hp⟩ := jiq hp
 obtain ⟨_, _, rfl, g3, hp⟩ := jiq hp
 obtain ⟨_, _, rfl, g4, hp⟩ := jiq hp
 obtain rfl := jjp hp
 obtain ⟨x0, rfl, b0, h0⟩ := csOk_slice g0
 obtain ⟨x1, rfl, b1, h1⟩ := csOk_slice g1
 obtain ⟨x2, rfl, b2, h2⟩ := csOk_slice g2
 obtain ⟨x3, rfl, b3, h3⟩ := csOk_slice g3
 obtain ⟨x4, rfl, b4, h4⟩ := csOk_slice g4
 obtain ⟨l0, rfl⟩ := jpw h0
 obtain ⟨l1, -, rfl⟩ := jmq h1
 obtain ⟨l2, -, rfl⟩ := jmq h2
 obtain ⟨l3, -, rfl⟩ := int_list h3
 obtain ⟨l4, -, rfl⟩ := int_list h4
 exact ⟨⟨l0, l1, l2, l3, l4⟩, rfl, ⟨by simpa using b0, by simpa using b1, by simpa using b2, by simpa using b3, by simpa using b4⟩⟩
end Go.Lw
end

/-! Cones: what is reached, in plain terms. -/
section
namespace Go.Lw
open Go
structure MdGood (m : Md) : Prop where
 len : m.nodes.length ≤ 80
 ahead : Ahead m.nodes
 pairs : ∀ p ∈ m.inits ++ m.nexts, isNo m.nodes p.1 ∧ isNo m.nodes p.2
 nod1 : (m.inits.map (·.1)).Nodup
 nod2 : (m.nexts.map (·.1)).Nodup
theorem jmr {l : List Nd} {f : List Bool} {init : Bool} : ∀ {ps : List (Int × Int)}, pairsE l f init ps = 0 → ∀ p ∈ ps, isNo l p.1 ∧ isNo l p.2
 | [], _, p, hp => by cases hp
 | q :: ps, h, p, hp => by
  rw [pairsE] at h
  split at h
  ·rename_i h0
   rcases List.mem_cons.1 hp with rfl | hp
   ·unfold pairE at h0
    split at h0
    ·contradiction
    ·rename_i hn
     exact ⟨Classical.byContradiction fun h => hn (.inl h), Classical.byContradiction fun h => hn (.inr (.inl h))⟩
   ·exact jmr h p hp
  ·contradiction
theorem jit {m : Md} (h : checkE m = 0) : MdGood m := by
 unfold checkE at h
 split at h
 ·contradiction
 rename_i h1
 split at h
 ·contradiction
 rename_i h2
 split at h
 ·contradiction
 split at h
 ·contradiction
 rename_i h4
 have h4 : pairsAll m (hangF [] m.nodes) = 0 := Classical.byContradiction h4
 unfold pairsAll at h4
 split at h4
 ·contradiction
 rename_i e1
 split at h4
 ·contradiction
 rename_i e2
 split at h4
 ·contradiction
 rename_i e3
 have e1 := Classical.byContradiction e1
 have e2 := Classical.byContradiction e2
 refine ⟨by omega, jmm (Classical.byContradiction h2), fun p hp => ?_, ?_, ?_⟩
 ·rcases List.mem_append.1 hp with hp | hp
  ·exact jmr e1 p hp
  ·exact jmr e2 p hp
 ·exact Classical.byContradiction fun h => e3 (.inl h)
 ·exact Classical.byContradiction fun h => e3 (.inr h)
end Go.Lw
end

/-! The law WordApplies, of the machine: it answers true. -/
section
namespace Go.Lw
open Go
theorem natOf {x : Int} (h : 0 ≤ x) : ∃ n : Nat, x = n := ⟨x.toNat, by omega⟩
section
variable (k width n v e a b c w0 w1 w2 : Int) (gh : List GObj)
end
end Go.Lw
end

/-! Values of a model: words of nodes, and what is wrong with what is handed in. -/
section
namespace Go.Lw
open Go
def WdOk (l : List Nd) (ns : List Int) : Prop := ∀ a ∈ ns, isNo l a ∧ 1 ≤ wAt l a ∧ wAt l a ≤ 8
def wordsF (L : List Nd) : List Int → List Int → Int
 | a :: ns, v :: vs => if 0 ≤ v ∧ v < ((2 ^ (wAt L a).toNat : Nat) : Int) then wordsF L ns vs else 3
 | [], _ => 0
 | _ :: _, [] => 0
def wordsE (L : List Nd) (ns vs : List Int) : Int := if vs.length ≠ ns.length then 2 else wordsF L ns vs
section
variable {m : Md} {gh : List GObj}
def woSt (m : Md) (ns vs : List Int) (i : Nat) (gh : List GObj) : St :=
 ⟨[(2, LI vs), (3, .ptr false 0 0), (14, LI ns), (15, I ns.length), (16, I (i : Int))], [[LN m.nodes, LP m.inits, LP m.nexts, LI m.bads, LI m.holds]], gh⟩
theorem jpy {ns vs : List Int} (hx : WdOk m.nodes ns) (hl : ns.length ≤ 1000) (hv : vs.length = ns.length) : ∀ k i, i + k = ns.length →
  runL pg q5j (woSt m ns vs i gh) = if wordsF m.nodes (ns.drop i) (vs.drop i) = 0 then some (.normal, ⟨[], [], gh⟩) else some (.ret, ⟨[(6, I (wordsF m.nodes (ns.drop i) (vs.drop i)))], [], gh⟩)
 | 0, i, h => by
  rw [List.drop_eq_nil_of_le (by omega), wordsF, if_pos rfl]
  have hlt : ¬ (i : Int) < (ns.length : Int) := by omega
  refine (ji7 (s1 := ?s1) (q53_ ?h1)).trans ?r1
  case h1 => simp only [q53, decide_eq_false hlt, jim]; rfl
  case r1 => simp [keep]
 | k + 1, i, h => by
  have hlt : i < ns.length := by omega
  have hltI : (i : Int) < (ns.length : Int) := by omega
  have hlv : i < vs.length := by omega
  have e2 : IntKind.i64.wrap ((i : Int) + 1) = ((i + 1 : Nat) : Int) := by rw [ji5 (by omega) (by omega)]; omega
  have hg : (ns.map I)[i]? = some (I ns[i]) := by simp [List.getElem?_eq_getElem hlt]
  have hgv : (vs.map I)[i]? = some (I vs[i]) := by simp [List.getElem?_eq_getElem hlv]
  obtain ⟨hno, hw⟩ := hx _ (List.getElem_mem hlt)
  have hn := jis hno
  have h0 := hno.1
  rw [List.drop_eq_getElem_cons hlt, List.drop_eq_getElem_cons hlv, wordsF]
  have hIW := jp6 vs[i] (wAt m.nodes ns[i]) (by omega) gh
  rw [shl1 hw] at hIW
  generalize ns[i] = a at *
  generalize vs[i] = v at *
  unfold wAt at *
  generalize hd : m.nodes.getD a.toNat default = d at *
  rw [jik d] at hn
  by_cases hc : 0 ≤ v ∧ v < ((2 ^ d.w.toNat : Nat) : Int)
  ·rw [decide_eq_true hc] at hIW
   rw [if_pos hc]
   refine ji4 (s1 := woSt m ns vs (i + 1) gh) (q53_ ?_) (jpy hx hl hv k (i + 1) (by omega))
   unfold woSt
   simp [q53, hltI, hg, hgv, h0, hn, hIW, e2, -List.getElem?_map]
  ·rw [decide_eq_false hc] at hIW
   rw [if_neg hc, if_neg (by decide)]
   refine lp_ret (q53_ ?_)
   simp [q53, hltI, hg, hgv, h0, hn, hIW, -List.getElem?_map]
theorem jpz {ns vs : List Int} (hx : WdOk m.nodes ns) (hl : ns.length ≤ 1000) : callL pg 135 [modelV m, LI ns, LI vs] gh = some (I (wordsE m.nodes ns vs), gh) := by
 rw [ji9]
 unfold wordsE
 by_cases hv : vs.length = ns.length
 ·rw [if_neg (by omega)]
  have h := jpy (gh := gh) hx hl hv ns.length 0 (by omega)
  rw [List.drop_zero, List.drop_zero] at h
  unfold woSt at h
  simp only [Int.natCast_zero] at h
  have hk := qhp_ (pg := pg) (gh := gh) rfl
  by_cases hz : wordsF m.nodes ns vs = 0
  ·rw [if_pos hz] at h
   rw [hz]
   refine ji3 (fn := q13) (s := ⟨[(6, I 0)], [], gh⟩) rfl rfl (q54_ ?h1) ?r1
   case h1 => simp [q54, hv, h, hk]
   case r1 => simp [finish, results, q13, resOfs, resOf, resOk]
  ·rw [if_neg hz] at h
   generalize wordsF m.nodes ns vs = r at *
   refine ji3 (fn := q13) (s := ⟨[(6, I r)], [], gh⟩) rfl rfl (q54_ ?h2) ?r2
   case h2 => simp [q54, hv, h]
   case r2 => simp [finish, results, q13, resOfs, resOf, resOk]
 ·rw [if_pos hv]
  have hd : decide ((vs.length : Int) = (ns.length : Int)) = false := decide_eq_false (by omega)
  refine ji3 (fn := q13) (s := ⟨[(6, I 2)], [], gh⟩) rfl rfl (q54_ ?h3) ?r3
  case h3 => simp [q54, hd]
  case r3 => simp [finish, results, q13, resOfs, resOf, resOk]
theorem jq0 {ns vs : List Int} (hx : WdOk m.nodes ns) (hl : ns.length ≤ 1000) (hv : vs.length = ns.length) : ∀ k i, i + k = ns.length →
  runL pg q7j ⟨[(2, LI vs), (3, .ptr false 0 0), (7, LI ns), (8, I (i : Int))], [[LN m.nodes, LP m.inits, LP m.nexts, LI m.bads, LI m.holds]], gh⟩ =
   if wordsF m.nodes (ns.drop i) (vs.drop i) = 0 then some (.normal, ⟨[], [], gh⟩) else some (.ret, ⟨[(6, I (wordsF m.nodes (ns.drop i) (vs.drop i)))], [], gh⟩)
 | 0, i, h => by
  rw [List.drop_eq_nil_of_le (by omega), wordsF, if_pos rfl]
  have hlt : ¬ i < vs.length := by omega
  refine (ji7 (s1 := ?s1) (q55_ ?h1)).trans ?r1
  case h1 => simp [q55, hlt]; rfl
  case r1 => simp [keep]
 | k + 1, i, h => by
  have hlt : i < ns.length := by omega
  have hlv : i < vs.length := by omega
  have hltI : (i : Int) < (vs.length : Int) := by omega
  have hltD : decide (i < vs.length) = true := decide_eq_true hlv
  have e2 : IntKind.i64.wrap ((i : Int) + 1) = ((i + 1 : Nat) : Int) := by rw [ji5 (by omega) (by omega)]; omega
  have hg : (ns.map I)[i]? = some (I ns[i]) := by simp [List.getElem?_eq_getElem hlt]
  have hgv : (vs.map I)[i]? = some (I vs[i]) := by simp [List.getElem?_eq_getElem hlv]
  obtain ⟨hno, hw⟩ := hx _ (List.getElem_mem hlt)
  have hn := jis hno
  have h0 := hno.1
  rw [List.drop_eq_getElem_cons hlt, List.drop_eq_getElem_cons hlv, wordsF]
  generalize ns[i] = a at *
  generalize vs[i] = v at *
  unfold wAt at *
  generalize hd : m.nodes.getD a.toNat default = d at *
  rw [jik d] at hn
  obtain ⟨W, hW⟩ := natOf (show 0 ≤ d.w by omega)
  rw [hW] at hn hw
  have hT := Two_eq (show W ≤ 61 by omega) gh
  have hp : 2 ^ W ≤ 256 := pow_lt (by omega)
  have hp0 : 1 ≤ 2 ^ W := Nat.one_le_two_pow
  have hw1 : IntKind.i64.wrap (((2 ^ W : Nat) : Int) - 1) = ((2 ^ W : Nat) : Int) - 1 := ji5 (by omega) (by omega)
  have hB := jio v 0 (((2 ^ W : Nat) : Int) - 1) gh
  rw [show d.w.toNat = W by omega]
  generalize ((2 ^ W : Nat) : Int) = P at *
  by_cases hc : 0 ≤ v ∧ v < P
  ·rw [decide_eq_true (show 0 ≤ v ∧ v ≤ P - 1 by omega)] at hB
   rw [if_pos hc]
   refine ji4 (s1 := ⟨[(2, LI vs), (3, .ptr false 0 0), (7, LI ns), (8, I ((i + 1 : Nat) : Int))], [[LN m.nodes, LP m.inits, LP m.nexts, LI m.bads, LI m.holds]], gh⟩) (q55_ ?_) (jq0 hx hl hv k (i + 1) (by omega))
   simp [q55, hltD, hg, hgv, h0, hn, hT, hw1, hB, e2, -List.getElem?_map]
  ·rw [decide_eq_false (show ¬ (0 ≤ v ∧ v ≤ P - 1) by omega)] at hB
   rw [if_neg hc, if_neg (by decide)]
   refine lp_ret (q55_ ?_)
   simp [q55, hltD, hg, hgv, h0, hn, hT, hw1, hB, -List.getElem?_map]
theorem jq1 {kind : Int} {vs : List Int} (hm : m.nodes.length ≤ 1000) (hx : WdOk m.nodes (kindL m.nodes kind)) : callL pg 124 [modelV m, I kind, LI vs] gh = some (I (wordsE m.nodes (kindL m.nodes kind) vs), gh) := by
 have hN := jke (m := m) (gh := gh) (kind := kind) (by omega)
 have hl : (kindL m.nodes kind).length ≤ 1000 := Nat.le_trans (jjt _ _ _) hm
 rw [ji9] at *
 unfold wordsE
 generalize kindL m.nodes kind = ns at *
 by_cases hv : vs.length = ns.length
 ·rw [if_neg (by omega)]
  have h := jq0 (gh := gh) hx hl hv ns.length 0 (by omega)
  rw [List.drop_zero, List.drop_zero] at h
  simp only [Int.natCast_zero] at h
  have hk := qhr_ (pg := pg) (gh := gh) rfl
  by_cases hz : wordsF m.nodes ns vs = 0
  ·rw [if_pos hz] at h
   rw [hz]
   refine ji3 (fn := q19) (s := ⟨[(6, I 0)], [], gh⟩) rfl rfl (q56_ ?h1) ?r1
   case h1 => simp [q56, hN, hv, h, hk]
   case r1 => simp [finish, results, q19, resOfs, resOf, resOk]
  ·rw [if_neg hz] at h
   generalize wordsF m.nodes ns vs = r at *
   refine ji3 (fn := q19) (s := ⟨[(6, I r)], [], gh⟩) rfl rfl (q56_ ?h2) ?r2
   case h2 => simp [q56, hN, hv, h]
   case r2 => simp [finish, results, q19, resOfs, resOf, resOk]
 ·rw [if_pos hv]
  have hd : decide ((vs.length : Int) = (ns.length : Int)) = false := decide_eq_false (by omega)
  refine ji3 (fn := q19) (s := ⟨[(6, I 2)], [], gh⟩) rfl rfl (q56_ ?h3) ?r3
  case h3 => simp [q56, hN, hd]
  case r3 => simp [finish, results, q19, resOfs, resOf, resOk]
theorem jxc {m : Md} (h : checkE m = 0) : nodesE m.nodes 0 m.nodes = 0 := by
 unfold checkE at h
 split at h
 ·contradiction
 split at h
 ·contradiction
 rename_i h2
 exact Classical.byContradiction h2
theorem jms {m : Md} (h : checkE m = 0) {i : Nat} {x : Nd} (hx : m.nodes[i]? = some x) : nodeE m.nodes i x = 0 := by
 have := jl0 (jxc h) i x hx
 rwa [Nat.zero_add] at this
theorem node_w {m : Md} (h : checkE m = 0) {i : Nat} {x : Nd} (hx : m.nodes[i]? = some x) : 1 ≤ x.w ∧ x.w ≤ 8 := by
 have h0 := jms h hx
 unfold nodeE at h0
 split at h0
 ·omega
 split at h0
 ·omega
 rename_i hw
 exact Classical.byContradiction hw
theorem wd_ok {m : Md} (h : checkE m = 0) {ns : List Int} (hn : ∀ a ∈ ns, isNo m.nodes a) : WdOk m.nodes ns := by
 intro a ha
 have hno := hn a ha
 refine ⟨hno, ?_⟩
 unfold wAt
 rw [List.getD_eq_getElem?_getD, List.getElem?_eq_getElem hno.2]
 exact node_w h (List.getElem?_eq_getElem hno.2)
theorem jl1 {m : Md} (h : checkE m = 0) (kind : Int) : WdOk m.nodes (kindL m.nodes kind) := wd_ok h fun _ ha => jpj ha
theorem jq2 {vs : List Int} (h : vs.length * 8 ≤ maxBytes) : callL pg 142 [LI vs] gh = some (LI (List.replicate vs.length 0), gh) := by
 have e : ∀ n : Nat, List.map I (List.replicate n 0) = List.replicate n (I 0) := fun n => List.map_replicate
 simp only [LI, e]
 have hn : noGs (List.replicate vs.length (PV.int IntKind.i64 0)) = true := by
  have := noGs_ints (List.replicate vs.length 0)
  rwa [e] at this
 have hI : decide ((vs.length : Int) * 8 ≤ (maxBytes : Int)) = true := decide_eq_true (by omega)
 refine ji3 (fn := q5q) (s := ?s1) rfl rfl (qez_ ?h1) ?r1
 case h1 => simp [qez, mkOk, hI, isFlat]; rfl
 case r1 => simp [finish, results, q5q, resOfs, resOf, resOk, hn]
end
end Go.Lw
end

/-! Values of a model: what they are, and that they are words. -/
section
namespace Go.Lw
open Go
def valX (L : List Nd) (acc : List Int) (x : Nd) : Int :=
 rawOf x.k x.w (acc.getD x.a.toNat 0) (acc.getD x.b.toNat 0) (acc.getD x.c.toNat 0) x.n (wdJ L x.k 0 x.a) (wdJ L x.k 1 x.b)
def valF (L : List Nd) : List Int → List Int → List Int → List Nd → List Int
 | acc, _, _, [] => acc
 | acc, ss, ks, x :: l =>
  if x.k = 1 then valF L (acc ++ [x.n]) ss ks l else if x.k = 3 then valF L (acc ++ [ss.headD 0]) ss.tail ks l
  else if x.k = 2 then valF L (acc ++ [ks.headD 0]) ss ks.tail l else valF L (acc ++ [valX L acc x]) ss ks l
def InW (L : List Nd) (acc : List Int) : Prop := ∀ j : Nat, j < acc.length → 0 ≤ acc.getD j 0 ∧ acc.getD j 0 < ((2 ^ (wAt L j).toNat : Nat) : Int)
structure VGood (L : List Nd) (i : Nat) (acc ss ks : List Int) : Prop where
 len : acc.length = i
 inw : InW L acc
 sl : ss.length = (kindF 3 i (L.drop i)).length
 sw : wordsF L (kindF 3 i (L.drop i)) ss = 0
 kl : ks.length = (kindF 2 i (L.drop i)).length
 kw : wordsF L (kindF 2 i (L.drop i)) ks = 0
theorem jmt {L : List Nd} {a : Int} {ns vs : List Int} (hl : vs.length = (a :: ns).length) (h : wordsF L (a :: ns) vs = 0) :
  ∃ v vs', vs = v :: vs' ∧ 0 ≤ v ∧ v < ((2 ^ (wAt L a).toNat : Nat) : Int) ∧ vs'.length = ns.length ∧ wordsF L ns vs' = 0 := by
 cases vs with
 | nil => simp at hl
 | cons v vs' =>
  rw [wordsF] at h
  split at h
  ·rename_i hc
   exact ⟨v, vs', rfl, hc.1, hc.2, by simpa using hl, h⟩
  ·cases h
theorem wAt_of {L : List Nd} {i : Nat} {x : Nd} (hx : L[i]? = some x) : wAt L (i : Int) = x.w := by
 unfold wAt
 rw [List.getD_eq_getElem?_getD, Int.toNat_natCast, hx]; rfl
theorem InW.push {L : List Nd} {acc : List Int} {i : Nat} {x : Nd} {v : Int} (h : InW L acc) (hi : acc.length = i) (hx : L[i]? = some x) (h0 : 0 ≤ v) (h1 : v < ((2 ^ x.w.toNat : Nat) : Int)) : InW L (acc ++ [v]) := by
 intro j hj
 rw [List.length_append, List.length_singleton] at hj
 by_cases he : j < acc.length
 ·have e : (acc ++ [v]).getD j 0 = acc.getD j 0 := by simp [List.getD_eq_getElem?_getD, List.getElem?_append_left he]
  rw [e]; exact h j he
 ·have ej : j = i := by omega
  subst ej
  have e : (acc ++ [v]).getD j 0 = v := by simp [List.getD_eq_getElem?_getD, ← hi]
  rw [e, wAt_of hx]
  exact ⟨h0, h1⟩
section
variable {L : List Nd} {i : Nat} {acc ss ks : List Int} {x : Nd}
theorem VGood.other (h : VGood L i acc ss ks) (hx : L[i]? = some x) (h3 : x.k ≠ 3) (h2 : x.k ≠ 2) {v : Int} (v0 : 0 ≤ v) (v1 : v < ((2 ^ x.w.toNat : Nat) : Int)) : VGood L (i + 1) (acc ++ [v]) ss ks := by
 obtain ⟨hlt, rfl⟩ := List.getElem?_eq_some_iff.1 hx
 obtain ⟨e1, e2, e3, e4, e5, e6⟩ := h
 rw [List.drop_eq_getElem_cons hlt, kindF, if_neg h3] at e3 e4
 rw [List.drop_eq_getElem_cons hlt, kindF, if_neg h2] at e5 e6
 exact ⟨by simp [e1], e2.push e1 hx v0 v1, e3, e4, e5, e6⟩
theorem VGood.state (h : VGood L i acc ss ks) (hx : L[i]? = some x) (h3 : x.k = 3) : ∃ v ss', ss = v :: ss' ∧ VGood L (i + 1) (acc ++ [v]) ss' ks := by
 obtain ⟨hlt, rfl⟩ := List.getElem?_eq_some_iff.1 hx
 obtain ⟨e1, e2, e3, e4, e5, e6⟩ := h
 rw [List.drop_eq_getElem_cons hlt, kindF, if_pos h3] at e3 e4
 rw [List.drop_eq_getElem_cons hlt, kindF, if_neg (by omega)] at e5 e6
 obtain ⟨v, ss', rfl, v0, v1, hl, hw⟩ := jmt e3 e4
 rw [wAt_of hx] at v1
 exact ⟨v, ss', rfl, by simp [e1], e2.push e1 hx v0 v1, hl, hw, e5, e6⟩
theorem VGood.input (h : VGood L i acc ss ks) (hx : L[i]? = some x) (h2 : x.k = 2) : ∃ v ks', ks = v :: ks' ∧ VGood L (i + 1) (acc ++ [v]) ss ks' := by
 obtain ⟨hlt, rfl⟩ := List.getElem?_eq_some_iff.1 hx
 obtain ⟨e1, e2, e3, e4, e5, e6⟩ := h
 rw [List.drop_eq_getElem_cons hlt, kindF, if_neg (by omega)] at e3 e4
 rw [List.drop_eq_getElem_cons hlt, kindF, if_pos h2] at e5 e6
 obtain ⟨v, ks', rfl, v0, v1, hl, hw⟩ := jmt e5 e6
 rw [wAt_of hx] at v1
 exact ⟨v, ks', rfl, by simp [e1], e2.push e1 hx v0 v1, e3, e4, hl, hw⟩
structure OpOk (L : List Nd) (i : Nat) (x : Nd) : Prop where
 fit : fitE x.k x.w x.n (wdJ L x.k 0 x.a) (wdJ L x.k 1 x.b) (wdJ L x.k 2 x.c) = 0
 a : 0 ≤ x.a ∧ x.a < i
 b : 0 ≤ x.b ∧ x.b < i
 c : 0 ≤ x.c ∧ x.c < i
 inn : ArgsIn L x
theorem op_ok (hx : L[i]? = some x) (hn : nodeE L i x = 0) (hk : ¬ x.k ≤ 3) : OpOk L i x := by
 unfold nodeE at hn
 split at hn
 ·omega
 split at hn
 ·omega
 split at hn
 ·omega
 rename_i hb
 have hi : i ≤ L.length := Nat.le_of_lt (List.getElem?_eq_some_iff.1 hx).1
 have hin := jme hi hb
 have hk' := (jkc hn).1
 have ht := jky hk'
 unfold badArgs badJ at hb
 simp only [not_or] at hb
 obtain ⟨b0, b1, b2⟩ := hb
 rw [if_pos ht] at b0
 refine ⟨hn, by omega, ?_, ?_, hin⟩
 ·split at b1 <;> omega
 ·split at b2 <;> omega
theorem jmu (hn : nodeE L i x = 0) (hk : x.k = 1) : 0 ≤ x.n ∧ x.n < ((2 ^ x.w.toNat : Nat) : Int) := by
 unfold nodeE at hn
 split at hn
 ·omega
 split at hn
 ·omega
 rw [if_pos (by omega)] at hn
 split at hn
 ·omega
 rename_i h
 exact Classical.byContradiction fun h2 => h ⟨hk, h2⟩
theorem jxd {k w a b c n w0 w1 : Int} (hw : 1 ≤ w ∧ w ≤ 8) : 0 ≤ rawOf k w a b c n w0 w1 ∧ rawOf k w a b c n w0 w1 < ((2 ^ w.toNat : Nat) : Int) := by
 obtain ⟨W, rfl⟩ := natOf (show 0 ≤ w by omega)
 rw [jpx k a b c n w0 w1 (by omega), Int.toNat_natCast]
 have : (0 : Int) < ((2 ^ W : Nat) : Int) := Int.natCast_pos.2 (Nat.two_pow_pos W)
 exact ⟨Int.emod_nonneg _ (by omega), Int.emod_lt_of_pos _ this⟩
theorem VGood.op (h : VGood L i acc ss ks) (hx : L[i]? = some x) (h3 : x.k ≠ 3) (h2 : x.k ≠ 2) (ho : OpOk L i x) : VGood L (i + 1) (acc ++ [valX L acc x]) ss ks :=
 have hw := jxd (k := x.k) (a := acc.getD x.a.toNat 0) (b := acc.getD x.b.toNat 0) (c := acc.getD x.c.toNat 0) (n := x.n) (w0 := wdJ L x.k 0 x.a) (w1 := wdJ L x.k 1 x.b) (jkc ho.fit).2.1
 h.other hx h3 h2 hw.1 hw.2
theorem val_at (h : VGood L i acc ss ks) {a : Int} (ha : 0 ≤ a ∧ a < i) : 0 ≤ acc.getD a.toNat 0 ∧ acc.getD a.toNat 0 < ((2 ^ (wAt L a).toNat : Nat) : Int) := by
 have := h.inw a.toNat (by rw [h.len]; omega)
 rwa [show ((a.toNat : Nat) : Int) = a by omega] at this
theorem jxe {k width a b c n w0 w1 w2 : Int} (he : fitE k width n w0 w1 w2 = 0) (h0 : 0 ≤ a ∧ a < ((2 ^ w0.toNat : Nat) : Int)) (hb : 0 ≤ b) (h1 : 1 < takesOf k → b < ((2 ^ w1.toNat : Nat) : Int)) (hc : 0 ≤ c) (h2 : 2 < takesOf k → c < ((2 ^ w2.toNat : Nat) : Int)) (gh : List GObj) :
  callL pg 28 [I k, I width, I a, I b, I c, I n, .agg [I w0, I w1, I w2]] gh = some (I (rawOf k width a b c n w0 w1), gh) := by
 obtain ⟨hk, hw, g0, g1, g2, s, hs, hf⟩ := jkc he
 have ht := jky hk
 unfold wOk at g0 g1 g2
 rw [if_pos ht] at g0
 have hn : 0 ≤ n := by
  unfold fitsOf at hf
  by_cases h6 : s = 6
  ·simp [h6] at hf; omega
  ·by_cases hn : n = 0
   ·omega
   ·simp [h6, hn] at hf
 have hw1 : 0 ≤ w1 := by split at g1 <;> omega
 have hw2 : 0 ≤ w2 := by split at g2 <;> omega
 obtain ⟨W, rfl⟩ := natOf (show 0 ≤ width by omega)
 obtain ⟨A, rfl⟩ := natOf h0.1
 obtain ⟨B, rfl⟩ := natOf hb
 obtain ⟨C, rfl⟩ := natOf hc
 obtain ⟨N, rfl⟩ := natOf hn
 obtain ⟨W0, rfl⟩ := natOf (show 0 ≤ w0 by omega)
 obtain ⟨W1, rfl⟩ := natOf hw1
 obtain ⟨W2, rfl⟩ := natOf hw2
 rw [Int.toNat_natCast] at h0 h1 h2
 have hd := Made_D (gh := gh) (A := A) (B := B) (C := C) hk hs hf (by omega) (by omega) (fun h => by rw [if_pos h] at g1; omega) (by omega) (fun h => by have := h1 h; omega) (fun h => by have := h2 h; omega)
 refine ji3 (fn := q6r) rfl rfl (q6_ hd) ?r1
 simp [finish, results, q6r, resOfs, resOf, resOk]
theorem jxf (h : VGood L i acc ss ks) (ho : OpOk L i x) (gh : List GObj) :
  callL pg 28 [I x.k, I x.w, I (acc.getD x.a.toNat 0), I (acc.getD x.b.toNat 0), I (acc.getD x.c.toNat 0), I x.n, widthsV L x] gh = some (I (valX L acc x), gh) := by
 have ht := jky (jkc ho.fit).1
 have va := val_at h ho.a
 have vb := val_at h ho.b
 have vc := val_at h ho.c
 refine jxe ho.fit ⟨va.1, ?_⟩ vb.1 (fun h1 => ?_) vc.1 (fun h2 => ?_) gh
 ·rw [show wdJ L x.k 0 x.a = wAt L x.a from if_pos ht]; exact va.2
 ·rw [show wdJ L x.k 1 x.b = wAt L x.b from if_pos h1]; exact vb.2
 ·rw [show wdJ L x.k 2 x.c = wAt L x.c from if_pos h2]; exact vc.2
theorem jxg (h : VGood L i acc ss ks) (ho : OpOk L i x) (gh : List GObj) :
  callL pg 66 [I x.k, I x.w, I (acc.getD x.a.toNat 0), I (acc.getD x.b.toNat 0), I (acc.getD x.c.toNat 0), I x.n, widthsV L x] gh = some (I (valX L acc x), gh) := by
 obtain ⟨hk, hw, g0, g1, g2, s, hs, hf⟩ := jkc ho.fit
 have ht := jky hk
 unfold wOk at g0 g1 g2
 rw [if_pos ht] at g0
 refine Raw_eq _ _ _ _ _ _ _ _ _ hk (val_at h ho.b).1 (fun h21 => ?_) g0 (fun h1 => ?_) (by omega) gh
 ·unfold fitsOf at hf
  by_cases h6 : s = 6
  ·simp [h6] at hf; omega
  ·by_cases hn : x.n = 0
   ·omega
   ·simp [h6, hn] at hf
 ·have : 1 < takesOf x.k := by rcases h1 with h | h <;> rw [h] <;> decide
  rwa [if_pos this] at g1
theorem jl2 {m : Md} {ss ks : List Int} (hs : wordsE m.nodes (kindL m.nodes 3) ss = 0) (hk : wordsE m.nodes (kindL m.nodes 2) ks = 0) : VGood m.nodes 0 [] ss ks := by
 unfold wordsE at hs hk
 split at hs
 ·cases hs
 split at hk
 ·cases hk
 exact ⟨rfl, fun j hj => by simp at hj, by rw [List.drop_zero]; rename_i h _; exact Classical.byContradiction h, by rw [List.drop_zero]; exact hs, by rw [List.drop_zero]; rename_i _ h; exact Classical.byContradiction h, by rw [List.drop_zero]; exact hk⟩
theorem jq3 : ∀ {l : List Nd} {acc ss ks : List Int}, (valF L acc ss ks l).length = acc.length + l.length
 | [], _, _, _ => rfl
 | x :: l, acc, ss, ks => by
  rw [valF]
  repeat' split
  all_goals rw [jq3]; simp; omega
theorem jkf (hz : ∀ (j : Nat) (x : Nd), L[j]? = some x → nodeE L j x = 0) : ∀ k i acc ss ks, i + k = L.length → VGood L i acc ss ks → InW L (valF L acc ss ks (L.drop i))
 | 0, i, acc, ss, ks, h, hg => by
  rw [List.drop_eq_nil_of_le (by omega)]
  exact hg.inw
 | k + 1, i, acc, ss, ks, h, hg => by
  have hlt : i < L.length := by omega
  have hx : L[i]? = some L[i] := List.getElem?_eq_getElem hlt
  have hn := hz i _ hx
  rw [List.drop_eq_getElem_cons hlt, valF]
  split
  ·rename_i h1
   have := jmu hn h1
   exact jkf hz k (i + 1) _ _ _ (by omega) (hg.other hx (by omega) (by omega) this.1 this.2)
  ·split
   ·rename_i h3
    obtain ⟨v, ss', rfl, hg'⟩ := hg.state hx h3
    exact jkf hz k (i + 1) _ _ _ (by omega) hg'
   ·split
    ·rename_i h2
     obtain ⟨v, ks', rfl, hg'⟩ := hg.input hx h2
     exact jkf hz k (i + 1) _ _ _ (by omega) hg'
    ·rename_i h1 h3 h2
     have hk : ¬ L[i].k ≤ 3 := by
      intro hle
      unfold nodeE at hn
      split at hn
      ·omega
      ·omega
     exact jkf hz k (i + 1) _ _ _ (by omega) (hg.op hx h3 h2 (op_ok hx hn hk))
end
end Go.Lw
end

/-! Values of a model: the program's way and the document's come to them. -/
section
namespace Go.Lw
open Go
def outL (N : Nat) (acc : List Int) : List Int := acc ++ List.replicate (N - acc.length) 0
theorem jju {N : Nat} {acc : List Int} (h : acc.length ≤ N) : (outL N acc).length = N := by
 simp [outL]; omega
theorem jjv {N : Nat} {acc : List Int} {a : Nat} (h : a < acc.length) : (outL N acc)[a]? = some (acc.getD a 0) := by
 unfold outL
 rw [List.getElem?_append_left h, List.getD_eq_getElem?_getD, List.getElem?_eq_getElem h]; rfl
theorem jq4 {N : Nat} {acc : List Int} {v : Int} (h : acc.length < N) : (outL N acc).set acc.length v = outL N (acc ++ [v]) := by
 unfold outL
 rw [List.set_append_right _ _ (Nat.le_refl _), Nat.sub_self, List.length_append, List.length_singleton]
 obtain ⟨k, hk⟩ : ∃ k, N - acc.length = k + 1 := ⟨N - acc.length - 1, by omega⟩
 rw [hk, show N - (acc.length + 1) = k by omega, List.replicate_succ, List.set_cons_zero]
 simp
theorem jq5 {N : Nat} {acc : List Int} (h : acc.length = N) : outL N acc = acc := by simp [outL, h]
theorem jq6 {l : List PV} {i : Nat} {v : PV} (h : i < l.length) : spliceAt l i [v] = l.set i v := by
 unfold spliceAt
 rw [List.set_eq_take_append_cons_drop, if_pos h]; simp
def rawG (gh : List GObj) (o : List Int) : List GObj := gh ++ [.cells (o.map I), .cells [.bs true gh.length 0 o.length 1]]
section
variable {m : Md} {gh : List GObj}
theorem rawG_0 (o : List Int) : (rawG gh o)[gh.length]? = some (.cells (o.map I)) := by simp [rawG]
theorem rawG_1 (o : List Int) : (rawG gh o)[gh.length + 1]? = some (.cells [.bs true gh.length 0 o.length 1]) := by simp [rawG]
theorem jxh {o o2 : List Int} (h : o2.length = o.length) : (rawG gh o).set gh.length (.cells (o2.map I)) = rawG gh o2 := by
 simp [rawG, h]
theorem jmv {G : List GObj} {b : Nat} {o : List Int} {a : Int} {v : Int} (h1 : G[b + 1]? = some (.cells [.bs true b 0 o.length 1])) (h0 : G[b]? = some (.cells (o.map I))) (ha : 0 ≤ a ∧ a.toNat < o.length) (hv : o[a.toNat]? = some v) :
  callL pg 143 [I a, .ptr true (b + 1) 0] G = some (I v, G) := by
 have hg : (o.map I)[a.toNat]? = some (I v) := by simp [hv]
 have hl : (o.map I).length = o.length := by simp
 have hlt : a < (o.length : Int) := by omega
 obtain ⟨e0, e1⟩ := ha
 generalize o.map I = O at *
 generalize o.length = n at *
 refine ji3 (fn := q5r) (s := ⟨[(3, I v)], [], G⟩) rfl rfl (qf3_ ?h1) ?r1
 case h1 => simp [qf3, h1, h0, hg, e0, e1, hlt]
 case r1 => simp [finish, results, q5r, resOfs, resOf, resOk]
def rwSt (m : Md) (ss ks o : List Int) (i : Nat) (gh : List GObj) : St :=
 ⟨[(1, LI ss), (2, LI ks), (3, .ptr false 0 0), (7, .ptr true (gh.length + 1) 0), (8, .fn 143 [.ptr true (gh.length + 1) 0]), (17, LN m.nodes), (18, I m.nodes.length), (19, I (i : Int))], [[LN m.nodes, LP m.inits, LP m.nexts, LI m.bads, LI m.holds]], rawG gh o⟩
theorem Raw_k1 {ss ks : List PV} {i : Nat} (hi : i ≤ 1000) {G : List GObj} {b : Nat} : runL pg q14 ⟨[(1, .sl false 1 ss), (2, .sl false 1 ks), (3, .ptr false 0 0), (7, .ptr true (b + 1) 0), (8, .fn 143 [.ptr true (b + 1) 0]), (17, LN m.nodes), (18, I m.nodes.length), (19, I (i : Int))], [[LN m.nodes, LP m.inits, LP m.nexts, LI m.bads, LI m.holds]], G⟩ =
  some (.normal, ⟨[(1, .sl false 1 ss), (2, .sl false 1 ks), (3, .ptr false 0 0), (7, .ptr true (b + 1) 0), (8, .fn 143 [.ptr true (b + 1) 0]), (17, LN m.nodes), (18, I m.nodes.length), (19, I ((i + 1 : Nat) : Int))], [[LN m.nodes, LP m.inits, LP m.nexts, LI m.bads, LI m.holds]], G⟩) := by
 have e2 : IntKind.i64.wrap ((i : Int) + 1) = ((i + 1 : Nat) : Int) := by rw [ji5 (by omega) (by omega)]; omega
 refine qf0_ ?_
 simp [qf0, e2]
theorem nd_idx {R : Type} {l : List Nd} {i : Nat} {e : PV} (hx : (l.map nodeV)[i]? = some e) (f : PV → Option R) : idX 6 none (degr (LN l)) (i : Int) f = f (.ep e 0) := by simp [hx, -List.getElem?_map]
theorem nd_ld {R : Type} {a b c d e f : PV} (L : List (List PV)) (G : List GObj) (k : PV → Option R) : ldX L G true 6 (degr (.ep (.agg [a, b, c, d, e, f]) 0)) k = k (.agg [a, b, c, d, e, f]) := by simp
theorem Raw_s1 {b i ol : Nat} {G G2 : List GObj} {O S K : List PV} {v : Int} {x : Nd} (hltI : (i : Int) < (m.nodes.length : Int)) (hi : i ≤ 1000) (hx : (m.nodes.map nodeV)[i]? = some (.agg [I x.k, I x.w, I x.a, I x.b, I x.c, I x.n])) (hG1 : G[b + 1]? = some (.cells [.bs true b 0 ol 1])) (hG0 : G[b]? = some (.cells O)) (hoi : i < ol) (hml : O.length = ol) (hset : G.set b (.cells (spliceAt O i [I v])) = G2) (hv : v = x.n) (d1 : decide (x.k = 1) = true) :
  qj pg (.sl false 1 (S)) (.sl false 1 (K)) (b + 1) 0 (.fn 143 [.ptr true (b + 1) 0]) (LN m.nodes) m.nodes.length i (LN m.nodes) (LP m.inits) (LP m.nexts) (LI m.bads) (LI m.holds) G =
   some (.normal, ⟨[(1, .sl false 1 S), (2, .sl false 1 K), (3, .ptr false 0 0), (7, .ptr true (b + 1) 0), (8, .fn 143 [.ptr true (b + 1) 0]), (17, LN m.nodes), (18, I m.nodes.length), (19, I ((i + 1 : Nat) : Int))], [[LN m.nodes, LP m.inits, LP m.nexts, LI m.bads, LI m.holds]], G2⟩) := by
 have hil : (i : Int) < (ol : Int) := by omega
 have hoi2 : i + 1 ≤ ol := by omega
 have hk1 := Raw_k1 (m := m) (ss := S) (ks := K) hi (G := G2) (b := b)
 subst hv
 rw [qj, decide_eq_true hltI, jiu, nd_idx hx, nd_ld, unA_6]
 simp [d1, hG1, hG0, hil, hoi2, hml, hset, hk1, -List.getElem?_map]
theorem Raw_s3 {b i ol : Nat} {G G2 : List GObj} {O S K : List PV} {v : Int} {x : Nd} (hltI : (i : Int) < (m.nodes.length : Int)) (hi : i ≤ 1000) (hx : (m.nodes.map nodeV)[i]? = some (.agg [I x.k, I x.w, I x.a, I x.b, I x.c, I x.n])) (hG1 : G[b + 1]? = some (.cells [.bs true b 0 ol 1])) (hG0 : G[b]? = some (.cells O)) (hoi : i < ol) (hml : O.length = ol) (hset : G.set b (.cells (spliceAt O i [I v])) = G2) (d1 : decide (x.k = 1) = false) (d3 : decide (x.k = 3) = true) :
  qj pg (.sl false 1 (I v :: S)) (.sl false 1 (K)) (b + 1) 0 (.fn 143 [.ptr true (b + 1) 0]) (LN m.nodes) m.nodes.length i (LN m.nodes) (LP m.inits) (LP m.nexts) (LI m.bads) (LI m.holds) G =
   some (.normal, ⟨[(1, .sl false 1 S), (2, .sl false 1 K), (3, .ptr false 0 0), (7, .ptr true (b + 1) 0), (8, .fn 143 [.ptr true (b + 1) 0]), (17, LN m.nodes), (18, I m.nodes.length), (19, I ((i + 1 : Nat) : Int))], [[LN m.nodes, LP m.inits, LP m.nexts, LI m.bads, LI m.holds]], G2⟩) := by
 have hil : (i : Int) < (ol : Int) := by omega
 have hoi2 : i + 1 ≤ ol := by omega
 have hk1 := Raw_k1 (m := m) (ss := S) (ks := K) hi (G := G2) (b := b)
 rw [qj, decide_eq_true hltI, jiu, nd_idx hx, nd_ld, unA_6]
 simp [d1, d3, hG1, hG0, hil, hoi2, hml, hset, hk1, -List.getElem?_map]
theorem Raw_s2 {b i ol : Nat} {G G2 : List GObj} {O S K : List PV} {v : Int} {x : Nd} (hltI : (i : Int) < (m.nodes.length : Int)) (hi : i ≤ 1000) (hx : (m.nodes.map nodeV)[i]? = some (.agg [I x.k, I x.w, I x.a, I x.b, I x.c, I x.n])) (hG1 : G[b + 1]? = some (.cells [.bs true b 0 ol 1])) (hG0 : G[b]? = some (.cells O)) (hoi : i < ol) (hml : O.length = ol) (hset : G.set b (.cells (spliceAt O i [I v])) = G2) (d1 : decide (x.k = 1) = false) (d3 : decide (x.k = 3) = false) (d2 : decide (x.k = 2) = true) :
  qj pg (.sl false 1 (S)) (.sl false 1 (I v :: K)) (b + 1) 0 (.fn 143 [.ptr true (b + 1) 0]) (LN m.nodes) m.nodes.length i (LN m.nodes) (LP m.inits) (LP m.nexts) (LI m.bads) (LI m.holds) G =
   some (.normal, ⟨[(1, .sl false 1 S), (2, .sl false 1 K), (3, .ptr false 0 0), (7, .ptr true (b + 1) 0), (8, .fn 143 [.ptr true (b + 1) 0]), (17, LN m.nodes), (18, I m.nodes.length), (19, I ((i + 1 : Nat) : Int))], [[LN m.nodes, LP m.inits, LP m.nexts, LI m.bads, LI m.holds]], G2⟩) := by
 have hil : (i : Int) < (ol : Int) := by omega
 have hoi2 : i + 1 ≤ ol := by omega
 have hk1 := Raw_k1 (m := m) (ss := S) (ks := K) hi (G := G2) (b := b)
 rw [qj, decide_eq_true hltI, jiu, nd_idx hx, nd_ld, unA_6]
 simp [d1, d2, d3, hG1, hG0, hil, hoi2, hml, hset, hk1, -List.getElem?_map]
theorem Raw_s0 {b i ol : Nat} {G G2 : List GObj} {O S K : List PV} {v : Int} {x : Nd} (hltI : (i : Int) < (m.nodes.length : Int)) (hi : i ≤ 1000) (hx : (m.nodes.map nodeV)[i]? = some (.agg [I x.k, I x.w, I x.a, I x.b, I x.c, I x.n])) (hG1 : G[b + 1]? = some (.cells [.bs true b 0 ol 1])) (hG0 : G[b]? = some (.cells O)) (hoi : i < ol) (hml : O.length = ol) (hset : G.set b (.cells (spliceAt O i [I v])) = G2) {ya yb yc w0 w1 w2 : Int} (d1 : decide (x.k = 1) = false) (d3 : decide (x.k = 3) = false) (d2 : decide (x.k = 2) = false)
  (ca : callL pg 143 [I x.a, .ptr true (b + 1) 0] G = some (I ya, G)) (cb : callL pg 143 [I x.b, .ptr true (b + 1) 0] G = some (I yb, G)) (cc : callL pg 143 [I x.c, .ptr true (b + 1) 0] G = some (I yc, G))
  (hW : callL pg 104 [LN m.nodes, .agg [I x.k, I x.w, I x.a, I x.b, I x.c, I x.n]] G = some (.agg [I w0, I w1, I w2], G)) (hR : callL pg 66 [I x.k, I x.w, I ya, I yb, I yc, I x.n, .agg [I w0, I w1, I w2]] G = some (I v, G)) :
  qj pg (.sl false 1 (S)) (.sl false 1 (K)) (b + 1) 0 (.fn 143 [.ptr true (b + 1) 0]) (LN m.nodes) m.nodes.length i (LN m.nodes) (LP m.inits) (LP m.nexts) (LI m.bads) (LI m.holds) G =
   some (.normal, ⟨[(1, .sl false 1 S), (2, .sl false 1 K), (3, .ptr false 0 0), (7, .ptr true (b + 1) 0), (8, .fn 143 [.ptr true (b + 1) 0]), (17, LN m.nodes), (18, I m.nodes.length), (19, I ((i + 1 : Nat) : Int))], [[LN m.nodes, LP m.inits, LP m.nexts, LI m.bads, LI m.holds]], G2⟩) := by
 have hil : (i : Int) < (ol : Int) := by omega
 have hoi2 : i + 1 ≤ ol := by omega
 have hk1 := Raw_k1 (m := m) (ss := S) (ks := K) hi (G := G2) (b := b)
 rw [qj, decide_eq_true hltI, jiu, nd_idx hx, nd_ld, unA_6]
 simp [d1, d2, d3, hG1, hG0, ca, cb, cc, hW, hR, hil, hoi2, hml, hset, hk1, -List.getElem?_map]
theorem jxi (hl : m.nodes.length ≤ 80) (hz : ∀ (j : Nat) (x : Nd), m.nodes[j]? = some x → nodeE m.nodes j x = 0) {i : Nat} {acc ss ks : List Int} (hlt : i < m.nodes.length) (hg : VGood m.nodes i acc ss ks) :
  ∃ v ss' ks', VGood m.nodes (i + 1) (acc ++ [v]) ss' ks' ∧ valF m.nodes acc ss ks (m.nodes.drop i) = valF m.nodes (acc ++ [v]) ss' ks' (m.nodes.drop (i + 1)) ∧
   qj pg (LI ss) (LI ks) (gh.length + 1) 0 (.fn 143 [.ptr true (gh.length + 1) 0]) (LN m.nodes) m.nodes.length i (LN m.nodes) (LP m.inits) (LP m.nexts) (LI m.bads) (LI m.holds) (rawG gh (outL m.nodes.length acc)) =
    some (.normal, rwSt m ss' ks' (outL m.nodes.length (acc ++ [v])) (i + 1) gh) := by
 have hltI : (i : Int) < (m.nodes.length : Int) := by omega
 have hx0 : m.nodes[i]? = some m.nodes[i] := List.getElem?_eq_getElem hlt
 have hx : (m.nodes.map nodeV)[i]? = some (nodeV m.nodes[i]) := by simp [hx0]
 have hn := hz i _ hx0
 have hlen := hg.len
 rw [List.drop_eq_getElem_cons hlt, valF]
 generalize m.nodes[i] = x at *
 rw [jik x] at hx
 have hol : (outL m.nodes.length acc).length = m.nodes.length := jju (by omega)
 have hoi : i < (outL m.nodes.length acc).length := by omega
 have hG0 := rawG_0 (gh := gh) (outL m.nodes.length acc)
 have hG1 := rawG_1 (gh := gh) (outL m.nodes.length acc)
 have hset : ∀ v : Int, (rawG gh (outL m.nodes.length acc)).set gh.length (.cells (spliceAt ((outL m.nodes.length acc).map I) i [I v])) = rawG gh (outL m.nodes.length (acc ++ [v])) := fun v => by
  have e : ((outL m.nodes.length acc).map I).set i (I v) = ((outL m.nodes.length acc).set i v).map I := by rw [List.map_set]
  have hlv : (outL m.nodes.length (acc ++ [v])).length = (outL m.nodes.length acc).length := by rw [jju (by simp; omega), hol]
  rw [jq6 (by simpa using hoi), e, ← hlen, jq4 (by omega), jxh hlv]
 have hml : ((outL m.nodes.length acc).map I).length = (outL m.nodes.length acc).length := by simp
 by_cases h1 : x.k = 1
 ·rw [if_pos h1]
  have hc := jmu hn h1
  exact ⟨_, _, _, hg.other hx0 (by omega) (by omega) hc.1 hc.2, rfl, Raw_s1 hltI (by omega) hx hG1 hG0 hoi hml (hset x.n) rfl (decide_eq_true h1)⟩
 ·rw [if_neg h1]
  by_cases h3 : x.k = 3
  ·rw [if_pos h3]
   obtain ⟨v, ss', rfl, hg'⟩ := hg.state hx0 h3
   exact ⟨_, _, _, hg', rfl, Raw_s3 hltI (by omega) hx hG1 hG0 hoi hml (hset v) (decide_eq_false h1) (decide_eq_true h3)⟩
  ·rw [if_neg h3]
   by_cases h2 : x.k = 2
   ·rw [if_pos h2]
    obtain ⟨v, ks', rfl, hg'⟩ := hg.input hx0 h2
    exact ⟨_, _, _, hg', rfl, Raw_s2 hltI (by omega) hx hG1 hG0 hoi hml (hset v) (decide_eq_false h1) (decide_eq_false h3) (decide_eq_true h2)⟩
   ·rw [if_neg h2]
    have hk : ¬ x.k ≤ 3 := by
     intro hle
     unfold nodeE at hn
     split at hn
     ·omega
     ·omega
    have ho := op_ok hx0 hn hk
    have hW := jpg (gh := rawG gh (outL m.nodes.length acc)) ho.inn
    have hR := jxg hg ho (rawG gh (outL m.nodes.length acc))
    have ca := jmv hG1 hG0 ⟨ho.a.1, by have := ho.a; omega⟩ (jjv (by have := ho.a; omega))
    have cb := jmv hG1 hG0 ⟨ho.b.1, by have := ho.b; omega⟩ (jjv (by have := ho.b; omega))
    have cc := jmv hG1 hG0 ⟨ho.c.1, by have := ho.c; omega⟩ (jjv (by have := ho.c; omega))
    rw [jik] at hW
    unfold widthsV at hW hR
    exact ⟨_, _, _, hg.op hx0 h3 h2 ho, rfl, Raw_s0 hltI (by omega) hx hG1 hG0 hoi hml (hset (valX m.nodes acc x)) (decide_eq_false h1) (decide_eq_false h3) (decide_eq_false h2) ca cb cc hW hR⟩
theorem jq7 (hl : m.nodes.length ≤ 80) (hz : ∀ (j : Nat) (x : Nd), m.nodes[j]? = some x → nodeE m.nodes j x = 0) : ∀ k i acc ss ks, i + k = m.nodes.length → VGood m.nodes i acc ss ks →
  runL pg q3g (rwSt m ss ks (outL m.nodes.length acc) i gh) = some (.normal, ⟨[(7, .ptr true (gh.length + 1) 0)], [], rawG gh (valF m.nodes acc ss ks (m.nodes.drop i))⟩)
 | 0, i, acc, ss, ks, h, hg => by
  rw [List.drop_eq_nil_of_le (by omega), valF, jq5 (by rw [hg.len]; omega)]
  have hlt : ¬ (i : Int) < (m.nodes.length : Int) := by omega
  refine (ji7 (s1 := ?s1) (qj_ ?h1)).trans ?r1
  case h1 => simp only [qj, decide_eq_false hlt, jim]; rfl
  case r1 => simp [keep, stays]
 | k + 1, i, acc, ss, ks, h, hg => by
  obtain ⟨v, ss', ks', h1, h2, h3⟩ := jxi (gh := gh) hl hz (show i < m.nodes.length by omega) hg
  rw [h2]
  exact ji4 (qj_ h3) (jq7 hl hz k (i + 1) _ _ _ (by omega) h1)
def valsOf (m : Md) (ss ks : List Int) : List Int := valF m.nodes [] ss ks m.nodes
theorem jq8 (n : Nat) : List.flatMap PV.cells (List.replicate n (PV.int .i64 0)) = (outL n []).map I := by
 unfold outL
 rw [List.nil_append, List.length_nil, Nat.sub_zero, List.map_replicate]
 induction n with
 | zero => rfl
 | succ n ih => rw [List.replicate_succ, List.flatMap_cons, ih]; rfl
theorem jjw {ss ks : List Int} : (valsOf m ss ks).length = m.nodes.length := by
 unfold valsOf; rw [jq3]; simp
theorem jxj (xs : List Int) : frz gh.length (rawG gh xs) (.bs true gh.length 0 xs.length 1) = LI xs := by
 rw [jp1 (rawG_0 xs) (Nat.le_refl _) (by simp)]
 have e : ∀ l : List Int, (l.map I).map degr1 = l.map I := fun l => by rw [List.map_map]; rfl
 have e2 : (((xs.map I).drop 0).take xs.length) = xs.map I := by rw [List.drop_zero]; exact List.take_of_length_le (by simp)
 rw [e2, e]
theorem jq9 {ss ks : List Int} (h : checkE m = 0) (hg : VGood m.nodes 0 [] ss ks) : callL pg 139 [modelV m, LI ss, LI ks] gh = some (LI (valsOf m ss ks), gh) := by
 have hl := (jit h).len
 have hlp := jq7 (gh := gh) hl (fun j x hx => jms h hx) m.nodes.length 0 [] ss ks (by omega) hg
 rw [List.drop_zero] at hlp
 change runL pg q3g _ = some (_, ⟨_, _, rawG gh (valsOf m ss ks)⟩) at hlp
 have hvl := jjw (m := m) (ss := ss) (ks := ks)
 have hfz := jxj (gh := gh) (valsOf m ss ks)
 have hn := noGs_ints (valsOf m ss ks)
 have ht : (rawG gh (valsOf m ss ks)).take gh.length = gh := by simp [rawG]
 have g1 := rawG_1 (gh := gh) (valsOf m ss ks)
 have k2 : runL pg q3h ⟨[(7, .ptr true (gh.length + 1) 0)], [], rawG gh (valsOf m ss ks)⟩ = some (.ret, ⟨[(6, .bs true gh.length 0 (valsOf m ss ks).length 1)], [], rawG gh (valsOf m ss ks)⟩) := by
  refine qf1_ ?_
  simp [qf1, g1]
 generalize valsOf m ss ks = V at *
 have hmx : decide ((m.nodes.length : Int) * 8 ≤ (maxBytes : Int)) = true := decide_eq_true (by have : maxBytes = 140737488355328 := rfl; omega)
 have hz := jq8 m.nodes.length
 have hol : (outL m.nodes.length []).length = m.nodes.length := jju (by simp)
 unfold rwSt rawG at hlp
 rw [hol] at hlp
 simp only [Int.natCast_zero] at hlp
 rw [ji9]
 refine ji3 (fn := q5m) (s := ⟨[(6, .bs true gh.length 0 V.length 1)], [], rawG gh V⟩) rfl rfl (qf2_ ?h1) ?r1
 case h1 =>
  unfold rawG at k2 ⊢
  generalize (outL m.nodes.length []).map I = Z at *
  simp [qf2, mkOk, hmx, hz, spliceAt, hlp, k2]
 case r1 => simp [finish, results, q5m, resOfs, resOf, resOk, hfz, ht, hn]
theorem wrS (n : Nat) (h : n ≤ 1000) : IntKind.i64.wrap ((n : Int) + 1) = ((n + 1 : Nat) : Int) := by rw [ji5 (by omega) (by omega)]; omega
theorem nd_len {R : Type} {l : List Nd} (f : Nat → Option R) : isC (degr (LN l)) (lenS (degr (degr (LN l))) f) = f l.length := by simp
theorem nd_isC {R : Type} {l : List Nd} (x : Option R) : isC (degr (LN l)) x = x := by simp
theorem jl3 {R : Type} {l : List Nd} {i : Nat} {e : PV} (hx : (l.map nodeV)[i]? = some e) (f : PV → Option R) : idX 6 none (degr (degr (LN l))) (i : Int) f = f (.ep e 0) := by simp [hx, -List.getElem?_map]
theorem VO_s1 {b i s k ol : Nat} {G G2 : List GObj} {O S K : List PV} {v : Int} {x : Nd} (hltI : (i : Int) < (m.nodes.length : Int)) (hi : i ≤ 1000) (hs : s ≤ 1000) (hk : k ≤ 1000) (hx : (m.nodes.map nodeV)[i]? = some (.agg [I x.k, I x.w, I x.a, I x.b, I x.c, I x.n])) (hG0 : G[b]? = some (.cells O)) (hoi : i < ol) (hml : O.length = ol) (hset : G.set b (.cells (spliceAt O i [I v])) = G2) (hv : v = x.n) (d1 : decide (x.k = 1) = true) :
  qk pg (.sl false 1 S) (.sl false 1 K) (.bs true b 0 ol 1) s k i (LN m.nodes) (LP m.inits) (LP m.nexts) (LI m.bads) (LI m.holds) G =
   some (.normal, ⟨[(1, .sl false 1 S), (2, .sl false 1 K), (3, .ptr false 0 0), (7, .bs true b 0 ol 1), (8, I ((s : Nat))), (9, I ((k : Nat))), (10, I (((i + 1 : Nat) : Int)))], [[LN m.nodes, LP m.inits, LP m.nexts, LI m.bads, LI m.holds]], G2⟩) := by
 have hil : (i : Int) < (ol : Int) := by omega
 have hoi2 : i + 1 ≤ ol := by omega
 have hk1 : runL pg ql ⟨[(1, .sl false 1 S), (2, .sl false 1 K), (3, .ptr false 0 0), (7, .bs true b 0 ol 1), (8, I ((s : Nat))), (9, I ((k : Nat))), (10, I (i))], [[LN m.nodes, LP m.inits, LP m.nexts, LI m.bads, LI m.holds]], G2⟩ = some (.normal, ⟨[(1, .sl false 1 S), (2, .sl false 1 K), (3, .ptr false 0 0), (7, .bs true b 0 ol 1), (8, I ((s : Nat))), (9, I ((k : Nat))), (10, I (((i + 1 : Nat) : Int)))], [[LN m.nodes, LP m.inits, LP m.nexts, LI m.bads, LI m.holds]], G2⟩) := by
  refine q37_ ?_
  simp [q37, wrS _ hi]
 push_cast at hk1
 subst hv
 rw [qk, nd_len]
 simp only [stK_sl, jkx, decide_eq_true hltI, jiu, nd_isC]
 rw [jl3 hx, nd_ld, unA_6]
 simp [d1, hG0, hil, hoi2, hml, hset, hk1]
theorem VO_s2 {b i s k ol : Nat} {G G2 : List GObj} {O S K : List PV} {v : Int} {x : Nd} (hltI : (i : Int) < (m.nodes.length : Int)) (hi : i ≤ 1000) (hs : s ≤ 1000) (hk : k ≤ 1000) (hx : (m.nodes.map nodeV)[i]? = some (.agg [I x.k, I x.w, I x.a, I x.b, I x.c, I x.n])) (hG0 : G[b]? = some (.cells O)) (hoi : i < ol) (hml : O.length = ol) (hset : G.set b (.cells (spliceAt O i [I v])) = G2) (hK : K[k]? = some (I v)) (d1 : decide (x.k = 1) = false) (d2 : decide (x.k = 2) = true) :
  qk pg (.sl false 1 S) (.sl false 1 K) (.bs true b 0 ol 1) s k i (LN m.nodes) (LP m.inits) (LP m.nexts) (LI m.bads) (LI m.holds) G =
   some (.normal, ⟨[(1, .sl false 1 S), (2, .sl false 1 K), (3, .ptr false 0 0), (7, .bs true b 0 ol 1), (8, I ((s : Nat))), (9, I (((k + 1 : Nat) : Int))), (10, I (((i + 1 : Nat) : Int)))], [[LN m.nodes, LP m.inits, LP m.nexts, LI m.bads, LI m.holds]], G2⟩) := by
 have hil : (i : Int) < (ol : Int) := by omega
 have hoi2 : i + 1 ≤ ol := by omega
 have hk1 : runL pg ql ⟨[(1, .sl false 1 S), (2, .sl false 1 K), (3, .ptr false 0 0), (7, .bs true b 0 ol 1), (8, I ((s : Nat))), (9, I (((k + 1 : Nat) : Int))), (10, I (i))], [[LN m.nodes, LP m.inits, LP m.nexts, LI m.bads, LI m.holds]], G2⟩ = some (.normal, ⟨[(1, .sl false 1 S), (2, .sl false 1 K), (3, .ptr false 0 0), (7, .bs true b 0 ol 1), (8, I ((s : Nat))), (9, I (((k + 1 : Nat) : Int))), (10, I (((i + 1 : Nat) : Int)))], [[LN m.nodes, LP m.inits, LP m.nexts, LI m.bads, LI m.holds]], G2⟩) := by
  refine q37_ ?_
  simp [q37, wrS _ hi]
 push_cast at hk1
 rw [qk, nd_len]
 simp only [stK_sl, jkx, decide_eq_true hltI, jiu, nd_isC]
 rw [jl3 hx, nd_ld, unA_6]
 simp [d1, d2, hK, wrS _ hk, hG0, hil, hoi2, hml, hset, hk1]
theorem VO_s3 {b i s k ol : Nat} {G G2 : List GObj} {O S K : List PV} {v : Int} {x : Nd} (hltI : (i : Int) < (m.nodes.length : Int)) (hi : i ≤ 1000) (hs : s ≤ 1000) (hk : k ≤ 1000) (hx : (m.nodes.map nodeV)[i]? = some (.agg [I x.k, I x.w, I x.a, I x.b, I x.c, I x.n])) (hG0 : G[b]? = some (.cells O)) (hoi : i < ol) (hml : O.length = ol) (hset : G.set b (.cells (spliceAt O i [I v])) = G2) (hS : S[s]? = some (I v)) (d1 : decide (x.k = 1) = false) (d2 : decide (x.k = 2) = false) (d3 : decide (x.k = 3) = true) :
  qk pg (.sl false 1 S) (.sl false 1 K) (.bs true b 0 ol 1) s k i (LN m.nodes) (LP m.inits) (LP m.nexts) (LI m.bads) (LI m.holds) G =
   some (.normal, ⟨[(1, .sl false 1 S), (2, .sl false 1 K), (3, .ptr false 0 0), (7, .bs true b 0 ol 1), (8, I (((s + 1 : Nat) : Int))), (9, I ((k : Nat))), (10, I (((i + 1 : Nat) : Int)))], [[LN m.nodes, LP m.inits, LP m.nexts, LI m.bads, LI m.holds]], G2⟩) := by
 have hil : (i : Int) < (ol : Int) := by omega
 have hoi2 : i + 1 ≤ ol := by omega
 have hk1 : runL pg ql ⟨[(1, .sl false 1 S), (2, .sl false 1 K), (3, .ptr false 0 0), (7, .bs true b 0 ol 1), (8, I (((s + 1 : Nat) : Int))), (9, I ((k : Nat))), (10, I (i))], [[LN m.nodes, LP m.inits, LP m.nexts, LI m.bads, LI m.holds]], G2⟩ = some (.normal, ⟨[(1, .sl false 1 S), (2, .sl false 1 K), (3, .ptr false 0 0), (7, .bs true b 0 ol 1), (8, I (((s + 1 : Nat) : Int))), (9, I ((k : Nat))), (10, I (((i + 1 : Nat) : Int)))], [[LN m.nodes, LP m.inits, LP m.nexts, LI m.bads, LI m.holds]], G2⟩) := by
  refine q37_ ?_
  simp [q37, wrS _ hi]
 push_cast at hk1
 rw [qk, nd_len]
 simp only [stK_sl, jkx, decide_eq_true hltI, jiu, nd_isC]
 rw [jl3 hx, nd_ld, unA_6]
 simp [d1, d2, d3, hS, wrS _ hs, hG0, hil, hoi2, hml, hset, hk1]
theorem VO_s0 {b i s k ol : Nat} {G G2 : List GObj} {O S K : List PV} {v : Int} {x : Nd} (hltI : (i : Int) < (m.nodes.length : Int)) (hi : i ≤ 1000) (hs : s ≤ 1000) (hk : k ≤ 1000) (hx : (m.nodes.map nodeV)[i]? = some (.agg [I x.k, I x.w, I x.a, I x.b, I x.c, I x.n])) (hG0 : G[b]? = some (.cells O)) (hoi : i < ol) (hml : O.length = ol) (hset : G.set b (.cells (spliceAt O i [I v])) = G2) {ya yb yc w0 w1 w2 : Int} (d1 : decide (x.k = 1) = false) (d2 : decide (x.k = 2) = false) (d3 : decide (x.k = 3) = false)
  (ha : 0 ≤ x.a ∧ x.a < (ol : Int)) (hb : 0 ≤ x.b ∧ x.b < (ol : Int)) (hc : 0 ≤ x.c ∧ x.c < (ol : Int)) (ga : O[x.a.toNat]? = some (I ya)) (gb : O[x.b.toNat]? = some (I yb)) (gc : O[x.c.toNat]? = some (I yc))
  (hW : callL pg 102 [LN m.nodes, .agg [I x.k, I x.w, I x.a, I x.b, I x.c, I x.n]] G = some (.agg [I w0, I w1, I w2], G)) (hR : callL pg 28 [I x.k, I x.w, I ya, I yb, I yc, I x.n, .agg [I w0, I w1, I w2]] G = some (I v, G)) :
  qk pg (.sl false 1 S) (.sl false 1 K) (.bs true b 0 ol 1) s k i (LN m.nodes) (LP m.inits) (LP m.nexts) (LI m.bads) (LI m.holds) G =
   some (.normal, ⟨[(1, .sl false 1 S), (2, .sl false 1 K), (3, .ptr false 0 0), (7, .bs true b 0 ol 1), (8, I ((s : Nat))), (9, I ((k : Nat))), (10, I (((i + 1 : Nat) : Int)))], [[LN m.nodes, LP m.inits, LP m.nexts, LI m.bads, LI m.holds]], G2⟩) := by
 have hil : (i : Int) < (ol : Int) := by omega
 have hoi2 : i + 1 ≤ ol := by omega
 have hk1 : runL pg ql ⟨[(1, .sl false 1 S), (2, .sl false 1 K), (3, .ptr false 0 0), (7, .bs true b 0 ol 1), (8, I ((s : Nat))), (9, I ((k : Nat))), (10, I (i))], [[LN m.nodes, LP m.inits, LP m.nexts, LI m.bads, LI m.holds]], G2⟩ = some (.normal, ⟨[(1, .sl false 1 S), (2, .sl false 1 K), (3, .ptr false 0 0), (7, .bs true b 0 ol 1), (8, I ((s : Nat))), (9, I ((k : Nat))), (10, I (((i + 1 : Nat) : Int)))], [[LN m.nodes, LP m.inits, LP m.nexts, LI m.bads, LI m.holds]], G2⟩) := by
  refine q37_ ?_
  simp [q37, wrS _ hi]
 push_cast at hk1
 obtain ⟨a0, a1⟩ := ha
 obtain ⟨b0, b1⟩ := hb
 obtain ⟨c0, c1⟩ := hc
 rw [qk, nd_len]
 simp only [stK_sl, jkx, decide_eq_true hltI, jiu, nd_isC]
 rw [jl3 hx, nd_ld, unA_6]
 simp [d1, d2, d3, a0, a1, b0, b1, c0, c1, ga, gb, gc, hW, hR, hG0, hil, hoi2, hml, hset, hk1, -getElem?_pos, -getElem?_neg]
def voG (gh : List GObj) (o : List Int) : List GObj := gh ++ [.cells (o.map I)]
theorem voG_0 (o : List Int) : (voG gh o)[gh.length]? = some (.cells (o.map I)) := by simp [voG]
theorem jxk {o o2 : List Int} : (voG gh o).set gh.length (.cells (o2.map I)) = voG gh o2 := by simp [voG]
def voSt (m : Md) (ss ks : List Int) (o : List Int) (s k i : Nat) (gh : List GObj) : St :=
 ⟨[(1, LI ss), (2, LI ks), (3, .ptr false 0 0), (7, .bs true gh.length 0 o.length 1), (8, I (s : Nat)), (9, I (k : Nat)), (10, I ((i : Nat) : Int))], [[LN m.nodes, LP m.inits, LP m.nexts, LI m.bads, LI m.holds]], voG gh o⟩
theorem jqa {l : List Int} {s : Nat} {v : Int} {r : List Int} (h : l.drop s = v :: r) : l[s]? = some v ∧ r = l.drop (s + 1) := by
 have h1 : s < l.length := Classical.byContradiction fun h2 => by rw [List.drop_eq_nil_of_le (by omega)] at h; cases h
 rw [List.drop_eq_getElem_cons h1] at h
 cases h
 exact ⟨List.getElem?_eq_getElem h1, rfl⟩
theorem jxl (hl : m.nodes.length ≤ 80) (hz : ∀ (j : Nat) (x : Nd), m.nodes[j]? = some x → nodeE m.nodes j x = 0) {i s k : Nat} {acc ss ks : List Int} (hlt : i < m.nodes.length) (hs : s ≤ i) (hk : k ≤ i) (hg : VGood m.nodes i acc (ss.drop s) (ks.drop k)) :
  ∃ v s' k', s' ≤ i + 1 ∧ k' ≤ i + 1 ∧ VGood m.nodes (i + 1) (acc ++ [v]) (ss.drop s') (ks.drop k') ∧ valF m.nodes acc (ss.drop s) (ks.drop k) (m.nodes.drop i) = valF m.nodes (acc ++ [v]) (ss.drop s') (ks.drop k') (m.nodes.drop (i + 1)) ∧
   qk pg (LI ss) (LI ks) (.bs true gh.length 0 (outL m.nodes.length acc).length 1) s k i (LN m.nodes) (LP m.inits) (LP m.nexts) (LI m.bads) (LI m.holds) (voG gh (outL m.nodes.length acc)) =
    some (.normal, voSt m ss ks (outL m.nodes.length (acc ++ [v])) s' k' (i + 1) gh) := by
 have hltI : (i : Int) < (m.nodes.length : Int) := by omega
 have hx0 : m.nodes[i]? = some m.nodes[i] := List.getElem?_eq_getElem hlt
 have hx : (m.nodes.map nodeV)[i]? = some (nodeV m.nodes[i]) := by simp [hx0]
 have hn := hz i _ hx0
 have hlen := hg.len
 rw [List.drop_eq_getElem_cons hlt, valF]
 generalize m.nodes[i] = x at *
 rw [jik x] at hx
 have hol : (outL m.nodes.length acc).length = m.nodes.length := jju (by omega)
 have hoi : i < (outL m.nodes.length acc).length := by omega
 have hG0 := voG_0 (gh := gh) (outL m.nodes.length acc)
 have hlv : ∀ v : Int, (outL m.nodes.length (acc ++ [v])).length = (outL m.nodes.length acc).length := fun v => by rw [jju (by simp; omega), hol]
 have hset : ∀ v : Int, (voG gh (outL m.nodes.length acc)).set gh.length (.cells (spliceAt ((outL m.nodes.length acc).map I) i [I v])) = voG gh (outL m.nodes.length (acc ++ [v])) := fun v => by
  have e : ((outL m.nodes.length acc).map I).set i (I v) = ((outL m.nodes.length acc).set i v).map I := by rw [List.map_set]
  rw [jq6 (by simpa using hoi), e, ← hlen, jq4 (by omega), jxk]
 have hml : ((outL m.nodes.length acc).map I).length = (outL m.nodes.length acc).length := by simp
 unfold voSt
 by_cases h1 : x.k = 1
 ·rw [if_pos h1]
  have hc := jmu hn h1
  refine ⟨_, s, k, by omega, by omega, hg.other hx0 (by omega) (by omega) hc.1 hc.2, rfl, ?_⟩
  rw [hlv]
  exact VO_s1 hltI (by omega) (by omega) (by omega) hx hG0 hoi hml (hset x.n) rfl (decide_eq_true h1)
 ·rw [if_neg h1]
  by_cases h3 : x.k = 3
  ·rw [if_pos h3]
   obtain ⟨v, ss', e, hg'⟩ := hg.state hx0 h3
   obtain ⟨e1, e2⟩ := jqa e
   rw [e, List.headD_cons, List.tail_cons, e2]
   rw [e2] at hg'
   refine ⟨_, s + 1, k, by omega, by omega, hg', rfl, ?_⟩
   rw [hlv]
   exact VO_s3 hltI (by omega) (by omega) (by omega) hx hG0 hoi hml (hset v) (by simp [e1]) (decide_eq_false h1) (decide_eq_false (by omega)) (decide_eq_true h3)
  ·rw [if_neg h3]
   by_cases h2 : x.k = 2
   ·rw [if_pos h2]
    obtain ⟨v, ks', e, hg'⟩ := hg.input hx0 h2
    obtain ⟨e1, e2⟩ := jqa e
    rw [e, List.headD_cons, List.tail_cons, e2]
    rw [e2] at hg'
    refine ⟨_, s, k + 1, by omega, by omega, hg', rfl, ?_⟩
    rw [hlv]
    exact VO_s2 hltI (by omega) (by omega) (by omega) hx hG0 hoi hml (hset v) (by simp [e1]) (decide_eq_false h1) (decide_eq_true h2)
   ·rw [if_neg h2]
    have hkk : ¬ x.k ≤ 3 := by
     intro hle
     unfold nodeE at hn
     split at hn
     ·omega
     ·omega
    have ho := op_ok hx0 hn hkk
    have hW := jph (gh := voG gh (outL m.nodes.length acc)) ho.inn
    have hR := jxf hg ho (voG gh (outL m.nodes.length acc))
    have oa := ho.a
    have ob := ho.b
    have oc := ho.c
    have ca : ((outL m.nodes.length acc).map I)[x.a.toNat]? = some (I (acc.getD x.a.toNat 0)) := by rw [List.getElem?_map, jjv (by omega)]; rfl
    have cb : ((outL m.nodes.length acc).map I)[x.b.toNat]? = some (I (acc.getD x.b.toNat 0)) := by rw [List.getElem?_map, jjv (by omega)]; rfl
    have cc : ((outL m.nodes.length acc).map I)[x.c.toNat]? = some (I (acc.getD x.c.toNat 0)) := by rw [List.getElem?_map, jjv (by omega)]; rfl
    rw [jik] at hW
    unfold widthsV at hW hR
    refine ⟨_, s, k, by omega, by omega, hg.op hx0 h3 h2 ho, rfl, ?_⟩
    rw [hlv]
    exact VO_s0 hltI (by omega) (by omega) (by omega) hx hG0 hoi hml (hset (valX m.nodes acc x)) (decide_eq_false h1) (decide_eq_false h2) (decide_eq_false h3) ⟨oa.1, by omega⟩ ⟨ob.1, by omega⟩ ⟨oc.1, by omega⟩ ca cb cc hW hR
theorem jqb (hl : m.nodes.length ≤ 80) (hz : ∀ (j : Nat) (x : Nd), m.nodes[j]? = some x → nodeE m.nodes j x = 0) {ss ks : List Int} : ∀ n i s k acc, i + n = m.nodes.length → s ≤ i → k ≤ i → VGood m.nodes i acc (ss.drop s) (ks.drop k) →
  runL pg q40 (voSt m ss ks (outL m.nodes.length acc) s k i gh) = some (.normal, ⟨[(7, .bs true gh.length 0 (valF m.nodes acc (ss.drop s) (ks.drop k) (m.nodes.drop i)).length 1)], [], voG gh (valF m.nodes acc (ss.drop s) (ks.drop k) (m.nodes.drop i))⟩)
 | 0, i, s, k, acc, h, _, _, hg => by
  rw [List.drop_eq_nil_of_le (show m.nodes.length ≤ i by omega), valF, jq5 (by rw [hg.len]; omega)]
  have hlt : ¬ i < m.nodes.length := by omega
  refine (ji7 (s1 := ?s1) (qk_ ?h1)).trans ?r1
  case h1 => simp [qk, hlt]; rfl
  case r1 => simp [keep, stays]
 | n + 1, i, s, k, acc, h, hs, hk, hg => by
  obtain ⟨v, s', k', h1, h2, h3, h4, h5⟩ := jxl (gh := gh) hl hz (show i < m.nodes.length by omega) hs hk hg
  rw [h4]
  exact ji4 (qk_ h5) (jqb hl hz n (i + 1) s' k' _ (by omega) h1 h2 h3)
theorem jxm (xs : List Int) : frz gh.length (voG gh xs) (.bs true gh.length 0 xs.length 1) = LI xs := by
 rw [jp1 (voG_0 xs) (Nat.le_refl _) (by simp)]
 have e : ∀ l : List Int, (l.map I).map degr1 = l.map I := fun l => by rw [List.map_map]; rfl
 have e2 : (((xs.map I).drop 0).take xs.length) = xs.map I := by rw [List.drop_zero]; exact List.take_of_length_le (by simp)
 rw [e2, e]
theorem jqc {ss ks : List Int} (h : checkE m = 0) (hg : VGood m.nodes 0 [] ss ks) : callL pg 132 [modelV m, LI ss, LI ks] gh = some (LI (valsOf m ss ks), gh) := by
 have hl := (jit h).len
 have hlp := jqb (gh := gh) (ss := ss) (ks := ks) hl (fun j x hx => jms h hx) m.nodes.length 0 0 0 [] (by omega) (Nat.le_refl _) (Nat.le_refl _) (by simpa using hg)
 simp only [List.drop_zero] at hlp
 change runL pg q40 _ = some (_, ⟨[(_, .bs _ _ _ (valsOf m ss ks).length _)], _, voG gh (valsOf m ss ks)⟩) at hlp
 have hfz := jxm (gh := gh) (valsOf m ss ks)
 have hn := noGs_ints (valsOf m ss ks)
 have ht : (voG gh (valsOf m ss ks)).take gh.length = gh := by simp [voG]
 generalize valsOf m ss ks = V at *
 have k2 := qf4_ (pg := pg) (gh := voG gh V) (v7 := .bs true gh.length 0 V.length 1) (e := .ret) (s := ⟨[(6, .bs true gh.length 0 V.length 1)], [], voG gh V⟩) (by simp [qf4])
 have hmx : decide ((m.nodes.length : Int) * 8 ≤ (maxBytes : Int)) = true := decide_eq_true (by have : maxBytes = 140737488355328 := rfl; omega)
 have hz := jq8 m.nodes.length
 have hol : (outL m.nodes.length []).length = m.nodes.length := jju (by simp)
 unfold voSt at hlp
 rw [hol] at hlp
 simp only [Int.natCast_zero] at hlp
 rw [ji9]
 refine ji3 (fn := q7o) (s := ⟨[(6, .bs true gh.length 0 V.length 1)], [], voG gh V⟩) rfl rfl (qf5_ ?h1) ?r1
 case h1 =>
  unfold voG at hlp k2 ⊢
  generalize (outL m.nodes.length []).map I = Z at *
  simp [qf5, mkOk, hmx, hz, hlp, k2]
 case r1 => simp [finish, results, q7o, resOfs, resOf, resOk, hfz, ht, hn]
end
end Go.Lw
end

/-! States of a model: what they begin as. -/
section
namespace Go.Lw
open Go
def pairOf : List (Int × Int) → Int → Int
 | [], _ => -1
 | p :: ps, s => if p.1 = s then p.2 else pairOf ps s
def hasP (ps : List (Int × Int)) (s : Int) : Bool := ps.any fun p => decide (p.1 = s)
theorem jl4 (p : Int × Int) (ps : List (Int × Int)) (s : Int) : hasP (p :: ps) s = (decide (p.1 = s) || hasP ps s) := rfl
theorem jmw : ∀ {ps : List (Int × Int)} {s : Int}, hasP ps s = false → pairOf ps s = -1
 | [], _, _ => rfl
 | p :: ps, s, h => by
  rw [jl4, Bool.or_eq_false_iff] at h
  rw [pairOf, if_neg (by simpa using h.1)]
  exact jmw h.2
theorem jjx : ∀ {ps : List (Int × Int)} {s : Int}, hasP ps s = true → (s, pairOf ps s) ∈ ps
 | [], _, h => by cases h
 | p :: ps, s, h => by
  rw [pairOf]
  by_cases hp : p.1 = s
  ·rw [if_pos hp, ← hp]; exact List.mem_cons_self ..
  ·rw [if_neg hp]
   rw [jl4, Bool.or_eq_true] at h
   rcases h with h | h
   ·exact absurd (by simpa using h) hp
   ·exact List.mem_cons_of_mem _ (jjx h)
section
variable {m : Md} {gh : List GObj}
theorem jqd {ps : List (Int × Int)} {s : Int} (hl : Sz ps.length) : ∀ k i, i + k = ps.length →
  runL pg q7t ⟨[(0, LP ps), (1, I s), (5, I (i : Int))], [], gh⟩ = if hasP (ps.drop i) s then some (.ret, ⟨[(4, I (pairOf (ps.drop i) s))], [], gh⟩) else some (.normal, ⟨[], [], gh⟩)
 | 0, i, h => by
  rw [List.drop_eq_nil_of_le (by omega)]
  have hlt : ¬ i < ps.length := by omega
  refine (ji7 (s1 := ?s1) (q59_ ?h1)).trans ?r1
  case h1 => simp [q59, hlt]; rfl
  case r1 => simp [keep, hasP]
 | k + 1, i, h => by
  have hlt : i < ps.length := by omega
  have hltD : decide (i < ps.length) = true := decide_eq_true hlt
  have e2 : IntKind.i64.wrap ((i : Int) + 1) = ((i + 1 : Nat) : Int) := jip (by simp only [Sz] at hl ⊢; omega)
  have hg : (ps.map andV)[i]? = some (andV ps[i]) := by simp [List.getElem?_eq_getElem hlt]
  rw [List.drop_eq_getElem_cons hlt, jl4, pairOf]
  generalize ps[i] = p at *
  rw [jj7] at hg
  by_cases hp : p.1 = s
  ·have hd : decide (p.1 = s) = true := decide_eq_true hp
   rw [if_pos hp, hd, Bool.true_or, if_pos rfl]
   refine lp_ret (q59_ ?_)
   simp [q59, hltD, hg, hd, -List.getElem?_map]
  ·have hd : decide (p.1 = s) = false := decide_eq_false hp
   rw [if_neg hp, hd, Bool.false_or]
   refine ji4 (s1 := ⟨[(0, LP ps), (1, I s), (5, I ((i + 1 : Nat) : Int))], [], gh⟩) (q59_ ?_) (jqd hl k (i + 1) (by omega))
   simp [q59, hltD, hg, hd, e2, -List.getElem?_map]
theorem jqe {ps : List (Int × Int)} {s : Int} (hl : Sz ps.length) : callL pg 137 [LP ps, I s] gh = some (I (pairOf ps s), gh) := by
 have h := jqd (gh := gh) (s := s) hl ps.length 0 (by omega)
 rw [List.drop_zero] at h
 simp only [Int.natCast_zero] at h
 have hk := qht_ (pg := pg) (gh := gh) rfl
 cases hh : hasP ps s with
 | true =>
  rw [hh, if_pos rfl] at h
  refine ji3 (fn := q2o) (s := ⟨[(4, I (pairOf ps s))], [], gh⟩) rfl rfl (q9d_ ?h1) ?r1
  case h1 => simp [q9d, h]
  case r1 => simp [finish, results, q2o, resOfs, resOf, resOk]
 | false =>
  rw [hh, if_neg (by decide)] at h
  rw [jmw hh]
  refine ji3 (fn := q2o) (s := ⟨[(4, I (-1))], [], gh⟩) rfl rfl (q9d_ ?h2) ?r2
  case h2 => simp [q9d, h, hk]
  case r2 => simp [finish, results, q2o, resOfs, resOf, resOk]
def byM (V : List Int) (ps : List (Int × Int)) : List (Int × Int) := ps.map fun p => (p.1, V.getD p.2.toNat 0)
theorem jqf : ∀ {l : List (Int × Int)} {k v : Int}, (∀ p ∈ l, p.1 ≠ k) → setI l k v = l ++ [(k, v)]
 | [], _, _, _ => rfl
 | (a, u) :: l, k, v, h => by
  rw [setI, if_neg (fun e => h (a, u) (List.mem_cons_self ..) e.symm), jqf fun p hp => h p (List.mem_cons_of_mem _ hp)]; rfl
theorem jqg {V : List Int} {ps : List (Int × Int)} {i : Nat} (hn : (ps.map (·.1)).Nodup) (hi : i < ps.length) : setI (byM V (ps.take i)) ps[i].1 (V.getD ps[i].2.toNat 0) = byM V (ps.take (i + 1)) := by
 rw [jqf]
 ·rw [List.take_succ_eq_append_getElem hi]; unfold byM; rw [List.map_append]; rfl
 ·intro p hp
  obtain ⟨q, hq, rfl⟩ := List.mem_map.1 hp
  obtain ⟨j, hj, rfl⟩ := List.mem_iff_getElem.1 hq
  rw [List.length_take] at hj
  rw [List.getElem_take]
  intro e
  have e : ps[j].1 = ps[i].1 := e
  have : j = i := jkq (l := ps.map (·.1)) hn (by simp [List.getElem?_eq_getElem (show j < ps.length by omega), List.getElem?_eq_getElem hi, e]) (by simp; omega)
  omega
theorem jmx {V : List Int} : ∀ {ps : List (Int × Int)} {s : Int}, findI (byM V ps) s = if hasP ps s then some (V.getD (pairOf ps s).toNat 0) else none
 | [], _ => rfl
 | p :: ps, s => by
  have ih := jmx (V := V) (ps := ps) (s := s)
  change (if s = p.1 then _ else findI (byM V ps) s) = _
  rw [jl4, pairOf, ih]
  by_cases h : p.1 = s
  ·rw [if_pos h.symm, decide_eq_true h, Bool.true_or, if_pos rfl, if_pos h]
  ·rw [if_neg (fun e => h e.symm), decide_eq_false h, Bool.false_or, if_neg h]
def firstF (V : List Int) (ps : List (Int × Int)) : List Int → List Int → List Int
 | s :: ss, w :: ws => (if hasP ps s then V.getD (pairOf ps s).toNat 0 else w) :: firstF V ps ss ws
 | _, _ => []
theorem vget {V : List Int} {a : Int} (h : a.toNat < V.length) : (V.map I)[a.toNat]? = some (I (V.getD a.toNat 0)) := by
 simp [List.getD_eq_getElem?_getD, List.getElem?_eq_getElem h]
theorem jqh {V wish st : List Int} {ps : List (Int × Int)} (hl : Sz ps.length) (hn : (ps.map (·.1)).Nodup) (hp : ∀ p ∈ ps, 0 ≤ p.2 ∧ p.2.toNat < V.length) : ∀ k i, i + k = ps.length →
  runL pg q3c ⟨[(1, LI wish), (5, LI st), (6, LI V), (7, .mp gh.length), (26, LP ps), (27, I ps.length), (28, I (i : Int))], [], gh ++ [.map (mapI (byM V (ps.take i)))]⟩ =
   some (.normal, ⟨[(1, LI wish), (5, LI st), (7, .mp gh.length)], [], gh ++ [.map (mapI (byM V ps))]⟩)
 | 0, i, h => by
  rw [List.take_of_length_le (by omega)]
  have hlt : ¬ (i : Int) < (ps.length : Int) := by omega
  refine (ji7 (s1 := ?s1) (q9e_ ?h1)).trans ?r1
  case h1 => simp only [q9e, decide_eq_false hlt, jim]; rfl
  case r1 => simp [keep, stays]
 | k + 1, i, h => by
  have hlt : i < ps.length := by omega
  have hltI : (i : Int) < (ps.length : Int) := by omega
  have e2 : IntKind.i64.wrap ((i : Int) + 1) = ((i + 1 : Nat) : Int) := jip (by simp only [Sz] at hl ⊢; omega)
  have hg : (ps.map andV)[i]? = some (andV ps[i]) := by simp [List.getElem?_eq_getElem hlt]
  have hs := jqg (V := V) hn hlt
  obtain ⟨q0, q1⟩ := hp _ (List.getElem_mem hlt)
  have hv := vget q1
  refine ji4 (s1 := ⟨[(1, LI wish), (5, LI st), (6, LI V), (7, .mp gh.length), (26, LP ps), (27, I ps.length), (28, I ((i + 1 : Nat) : Int))], [], gh ++ [GObj.map (mapI (byM V (ps.take (i + 1))))]⟩) (q9e_ ?_) (jqh hl hn hp k (i + 1) (by omega))
  generalize ps[i] = p at *
  rw [jj7] at hg
  generalize V.getD p.2.toNat 0 = v at *
  generalize byM V (ps.take (i + 1)) = M2 at *
  generalize byM V (ps.take i) = M1 at *
  have hmu := fun f => jm6 (R := IExit × St) gh M1 p.1 v f
  rw [hs] at hmu
  simp [q9e, hltI, hg, q0, hv, e2, hmu, -List.getElem?_map, -lkX_mp, -muX_mp]
theorem jl5 (acc : List Int) (v : Int) : (acc ++ [v]).map I = acc.map I ++ [I v] := by simp
theorem fi_k3 {wish st : List Int} {M : List (Int × Int)} {A : List PV} {i : Nat} (hi : i ≤ 1000) :
  runL pg q1w ⟨[(1, LI wish), (7, .mp gh.length), (10, .sl true 1 A), (41, LI st), (42, I st.length), (43, I (i : Int))], [], gh ++ [.map (mapI M)]⟩ =
   some (.normal, ⟨[(1, LI wish), (7, .mp gh.length), (10, .sl true 1 A), (41, LI st), (42, I st.length), (43, I ((i + 1 : Nat) : Int))], [], gh ++ [.map (mapI M)]⟩) := by
 have e2 : IntKind.i64.wrap ((i : Int) + 1) = ((i + 1 : Nat) : Int) := by rw [ji5 (by omega) (by omega)]; omega
 refine qf7_ ?_
 simp [qf7, e2]
theorem fi_k2 {wish st : List Int} {M : List (Int × Int)} {A : List PV} {i : Nat} {v : Int} (hA : (A.length + 1) * 8 ≤ maxBytes) :
  runL pg q1v ⟨[(1, LI wish), (7, .mp gh.length), (10, .sl true 1 A), (13, I v), (41, LI st), (42, I st.length), (43, I (i : Int))], [], gh ++ [.map (mapI M)]⟩ =
   some (.normal, ⟨[(1, LI wish), (7, .mp gh.length), (10, .sl true 1 (A ++ [I v])), (41, LI st), (42, I st.length), (43, I (i : Int))], [], gh ++ [.map (mapI M)]⟩) := by
 refine qf6_ ?_
 simp [qf6, hA]
theorem jqi {V wish st : List Int} {ps : List (Int × Int)} (hl : st.length ≤ 1000) (hw : wish.length = st.length) : ∀ k i acc, i + k = st.length → acc.length ≤ i →
  runL pg q3d ⟨[(1, LI wish), (7, .mp gh.length), (10, .sl true 1 (acc.map I)), (41, LI st), (42, I st.length), (43, I (i : Int))], [], gh ++ [.map (mapI (byM V ps))]⟩ =
   some (.normal, ⟨[(10, .sl true 1 ((acc ++ firstF V ps (st.drop i) (wish.drop i)).map I))], [], gh ++ [.map (mapI (byM V ps))]⟩)
 | 0, i, acc, h, _ => by
  rw [List.drop_eq_nil_of_le (by omega), List.drop_eq_nil_of_le (show wish.length ≤ i by omega), firstF, List.append_nil]
  have hlt : ¬ (i : Int) < (st.length : Int) := by omega
  refine (ji7 (s1 := ?s1) (q5a_ ?h1)).trans ?r1
  case h1 => simp only [q5a, decide_eq_false hlt, jim]; rfl
  case r1 => simp [keep, stays]
  all_goals (intros; simp_all)
 | k + 1, i, acc, h, ha => by
  have hlt : i < st.length := by omega
  have hlw : i < wish.length := by omega
  have hltI : (i : Int) < (st.length : Int) := by omega
  have hg : (st.map I)[i]? = some (I st[i]) := by simp [List.getElem?_eq_getElem hlt]
  have hgw : (wish.map I)[i]? = some (I wish[i]) := by simp [List.getElem?_eq_getElem hlw]
  have hmx : ((acc.map I).length + 1) * 8 ≤ maxBytes := by
   have : maxBytes = 140737488355328 := rfl
   simp; omega
  rw [List.drop_eq_getElem_cons hlt, List.drop_eq_getElem_cons hlw, firstF, List.append_cons acc]
  refine ji4 (s1 := ⟨[(1, LI wish), (7, .mp gh.length), (10, .sl true 1 ((acc ++ [if hasP ps st[i] then V.getD (pairOf ps st[i]).toNat 0 else wish[i]]).map I)), (41, LI st), (42, I st.length), (43, I ((i + 1 : Nat) : Int))], [], gh ++ [GObj.map (mapI (byM V ps))]⟩) (q5a_ ?_) (jqi hl hw k (i + 1) _ (by omega) (by simp; omega))
  have hf := jmx (V := V) (ps := ps) (s := st[i])
  rw [jl5]
  generalize acc.map I = A at *
  generalize byM V ps = M at *
  generalize wish[i] = w at *
  generalize st[i] = a at *
  have hlk := fun f => jp3 (R := IExit × St) gh M a f
  have k2 := fun v => fi_k2 (gh := gh) (wish := wish) (st := st) (M := M) (i := i) (v := v) hmx
  have k3 := fun v => fi_k3 (gh := gh) (wish := wish) (st := st) (M := M) (A := A ++ [I v]) (i := i) (by omega)
  cases hh : hasP ps a with
  | true =>
   rw [hh, if_pos rfl] at hf
   rw [if_pos rfl]
   generalize V.getD (pairOf ps a).toNat 0 = v at *
   rw [hf] at hlk
   simp [q5a, hltI, hg, hlk, k2, k3, -List.getElem?_map, -lkX_mp]
  | false =>
   rw [hh, if_neg (by decide)] at hf
   rw [if_neg (by decide)]
   rw [hf] at hlk
   simp [q5a, hltI, hg, hgw, hlk, k2, k3, -List.getElem?_map, -lkX_mp]
theorem jl6 {m : Md} (hm : MdGood m) : m.inits.length ≤ 80 ∧ m.nexts.length ≤ 80 := by
 have len1 : ∀ {l : List (Int × Int)}, (l.map (·.1)).Nodup → (∀ p ∈ l, isNo m.nodes p.1) → l.length ≤ 80 := fun {l} hd hp => by
  have hs := List.Nodup.length_le_of_subset hd (l₂ := (List.range m.nodes.length).map fun (i : Nat) => (i : Int)) (fun a ha => by
   obtain ⟨p, hp', rfl⟩ := List.mem_map.1 ha
   have := hp p hp'
   have h3 := this.1
   have h4 := this.2
   exact List.mem_map.2 ⟨p.1.toNat, List.mem_range.2 h4, by omega⟩)
  have := hm.len
  simp at hs
  omega
 exact ⟨len1 hm.nod1 (fun p hp => (hm.pairs p (List.mem_append.2 (.inl hp))).1), len1 hm.nod2 (fun p hp => (hm.pairs p (List.mem_append.2 (.inr hp))).1)⟩
theorem jqj {L : List Nd} : ∀ ns : List Int, wordsF L ns (List.replicate ns.length 0) = 0
 | [] => rfl
 | a :: ns => by
  rw [List.length_cons, List.replicate_succ, wordsF, if_pos]
  ·exact jqj ns
  ·have : 1 ≤ 2 ^ (wAt L a).toNat := Nat.one_le_two_pow
   omega
theorem jqk {L : List Nd} (ns : List Int) : wordsE L ns (List.replicate ns.length 0) = 0 := by
 unfold wordsE
 rw [if_neg (by simp)]
 exact jqj ns
def zStates (m : Md) : List Int := List.replicate (kindL m.nodes 3).length 0
def zInputs (m : Md) : List Int := List.replicate (kindL m.nodes 2).length 0
def zVals (m : Md) : List Int := valsOf m (zStates m) (zInputs m)
def firstL (m : Md) (wish : List Int) : List Int := firstF (zVals m) m.inits (kindL m.nodes 3) wish
theorem jjy {m : Md} (hm : MdGood m) (k : Int) : (kindL m.nodes k).length ≤ 80 := Nat.le_trans (jjt _ _ _) hm.len
theorem z_good {m : Md} : VGood m.nodes 0 [] (zStates m) (zInputs m) := jl2 (jqk _) (jqk _)
theorem jql {m : Md} (hm : MdGood m) : ∀ p ∈ m.inits, 0 ≤ p.2 ∧ p.2.toNat < (zVals m).length := fun p hp => by
 have := (hm.pairs p (List.mem_append.2 (.inl hp))).2
 unfold zVals
 rw [jjw]
 exact this
theorem jxn {wish : List Int} (h : checkE m = 0) (hw : wish.length = (kindL m.nodes 3).length) : callL pg 136 [modelV m, LI wish] gh = some (LI (firstL m wish), gh) := by
 have hm := jit h
 have hl := hm.len
 have hpl := (jl6 hm).1
 have o3 := Ofk_eq (m := m) (gh := gh) (kind := 3) (by omega)
 have o2 := Ofk_eq (m := m) (gh := gh) (kind := 2) (by omega)
 have hmx : maxBytes = 140737488355328 := rfl
 have l3 := jjy hm 3
 have l2 := jjy hm 2
 have z3 := jq2 (gh := gh) (vs := kindL m.nodes 3) (by omega)
 have z2 := jq2 (gh := gh) (vs := kindL m.nodes 2) (by omega)
 have hr := jq9 (gh := gh) h z_good
 have h1 := jqh (gh := gh) (wish := wish) (st := kindL m.nodes 3) (by simp only [Sz]; omega) hm.nod1 (jql hm) m.inits.length 0 (by omega)
 have h2 := jqi (gh := gh) (V := zVals m) (ps := m.inits) (by omega) hw (kindL m.nodes 3).length 0 [] (by omega) (by simp)
 rw [List.drop_zero, List.drop_zero, List.nil_append] at h2
 simp only [List.take_zero, List.map_nil, Int.natCast_zero] at h1 h2
 change runL pg q3c ⟨_, _, gh ++ [GObj.map []]⟩ = _ at h1
 change callL pg 142 _ _ = some (LI (zStates m), gh) at z3
 change callL pg 142 _ _ = some (LI (zInputs m), gh) at z2
 change callL pg 139 _ _ = some (LI (zVals m), gh) at hr
 change runL pg q3d _ = some (_, ⟨[(_, .sl true 1 ((firstL m wish).map I))], _, _⟩) at h2
 have hn := noGs_ints (firstL m wish)
 generalize firstL m wish = F at *
 generalize zVals m = V at *
 generalize zStates m = Z3 at *
 generalize zInputs m = Z2 at *
 generalize mapI (byM V m.inits) = MM at *
 have k4 : runL pg q3e ⟨[(10, .sl true 1 (F.map I))], [], gh ++ [GObj.map MM]⟩ = some (.ret, ⟨[(4, .sl false 1 (F.map I))], [], gh ++ [GObj.map MM]⟩) := by
  refine qf8_ ?_
  simp [qf8]
 have k1 : runL pg q3f ⟨[(1, LI wish), (5, LI (kindL m.nodes 3)), (7, .mp gh.length)], [], gh ++ [GObj.map MM]⟩ = some (.ret, ⟨[(4, .sl false 1 (F.map I))], [], gh ++ [GObj.map MM]⟩) := by
  refine qf9_ ?_
  simp [qf9, h2, k4]
 rw [ji9] at *
 refine ji3 (fn := q5l) (s := ⟨[(4, .sl false 1 (F.map I))], [], gh ++ [GObj.map MM]⟩) rfl rfl (qfa_ ?h1) ?r1
 case h1 => simp [qfa, o3, o2, z3, z2, hr, h1, k1]
 case r1 => simp [finish, results, q5l, resOfs, resOf, resOk, hn]
theorem jxo {ps : List (Int × Int)} {s : Int} (hp : ∀ p ∈ ps, 0 ≤ p.2) : decide (0 ≤ pairOf ps s) = hasP ps s := by
 cases hh : hasP ps s with
 | true => exact decide_eq_true (hp _ (jjx hh))
 | false => rw [jmw hh]; rfl
theorem BO_k1 {wish st V : List Int} {A : List PV} {i : Nat} (hi : i ≤ 1000) :
  runL pg q2n ⟨[(1, LI wish), (2, .ptr false 0 0), (5, LI st), (6, LI V), (7, .sl true 1 A), (8, I (i : Int))], [[LN m.nodes, LP m.inits, LP m.nexts, LI m.bads, LI m.holds]], gh⟩ =
   some (.normal, ⟨[(1, LI wish), (2, .ptr false 0 0), (5, LI st), (6, LI V), (7, .sl true 1 A), (8, I ((i + 1 : Nat) : Int))], [[LN m.nodes, LP m.inits, LP m.nexts, LI m.bads, LI m.holds]], gh⟩) := by
 have e2 : IntKind.i64.wrap ((i : Int) + 1) = ((i + 1 : Nat) : Int) := by rw [ji5 (by omega) (by omega)]; omega
 refine qfb_ ?_
 simp [qfb, e2]
theorem jqm {V wish st : List Int} (hl : st.length ≤ 1000) (hw : wish.length = st.length) (hs : Sz m.inits.length) (hp : ∀ p ∈ m.inits, 0 ≤ p.2 ∧ p.2.toNat < V.length) : ∀ k i acc, i + k = st.length → acc.length ≤ i →
  runL pg q3z ⟨[(1, LI wish), (2, .ptr false 0 0), (5, LI st), (6, LI V), (7, .sl true 1 (acc.map I)), (8, I (i : Int))], [[LN m.nodes, LP m.inits, LP m.nexts, LI m.bads, LI m.holds]], gh⟩ =
   some (.normal, ⟨[(7, .sl true 1 ((acc ++ firstF V m.inits (st.drop i) (wish.drop i)).map I))], [], gh⟩)
 | 0, i, acc, h, _ => by
  rw [List.drop_eq_nil_of_le (by omega), List.drop_eq_nil_of_le (show wish.length ≤ i by omega), firstF, List.append_nil]
  have hlt : ¬ i < st.length := by omega
  refine (ji7 (s1 := ?s1) (q5c_ ?h1)).trans ?r1
  case h1 => simp [q5c, hlt]; rfl
  case r1 => simp [keep, stays]
  all_goals (intros; simp_all)
 | k + 1, i, acc, h, ha => by
  have hlt : i < st.length := by omega
  have hlw : i < wish.length := by omega
  have hltD : decide (i < st.length) = true := decide_eq_true hlt
  have hg : (st.map I)[i]? = some (I st[i]) := by simp [List.getElem?_eq_getElem hlt]
  have hgw : (wish.map I)[i]? = some (I wish[i]) := by simp [List.getElem?_eq_getElem hlw]
  have hmx : ((acc.map I).length + 1) * 8 ≤ maxBytes := by
   have : maxBytes = 140737488355328 := rfl
   simp; omega
  rw [List.drop_eq_getElem_cons hlt, List.drop_eq_getElem_cons hlw, firstF, List.append_cons acc]
  refine ji4 (s1 := ⟨[(1, LI wish), (2, .ptr false 0 0), (5, LI st), (6, LI V), (7, .sl true 1 ((acc ++ [if hasP m.inits st[i] then V.getD (pairOf m.inits st[i]).toNat 0 else wish[i]]).map I)), (8, I ((i + 1 : Nat) : Int))], [[LN m.nodes, LP m.inits, LP m.nexts, LI m.bads, LI m.holds]], gh⟩) (q5c_ ?_) (jqm hl hw hs hp k (i + 1) _ (by omega) (by simp; omega))
  have hc := jqe (gh := gh) (s := st[i]) hs
  have hd := jxo (ps := m.inits) (s := st[i]) (fun p hq => (hp p hq).1)
  rw [jl5]
  generalize acc.map I = A at *
  generalize wish[i] = w at *
  generalize st[i] = a at *
  have k1 := fun v => BO_k1 (m := m) (gh := gh) (wish := wish) (st := st) (V := V) (A := A ++ [I v]) (i := i) (by omega)
  cases hh : hasP m.inits a with
  | true =>
   rw [if_pos rfl]
   have hq := hp _ (jjx hh)
   have hv := vget hq.2
   have h0 := hq.1
   rw [hh] at hd
   simp only at h0 hv
   generalize V.getD (pairOf m.inits a).toNat 0 = v at *
   generalize pairOf m.inits a = n at *
   simp [q5c, hltD, hg, hc, hd, h0, hv, hmx, k1, -List.getElem?_map]
  | false =>
   rw [if_neg (by decide)]
   rw [hh] at hd
   generalize pairOf m.inits a = n at *
   simp [q5c, hltD, hg, hgw, hc, hd, hmx, k1, -List.getElem?_map]
theorem jxp {wish : List Int} (h : checkE m = 0) (hw : wish.length = (kindL m.nodes 3).length) : callL pg 125 [modelV m, LI wish] gh = some (LI (firstL m wish), gh) := by
 have hm := jit h
 have hl := hm.len
 have hpl := (jl6 hm).1
 have o3 := jke (m := m) (gh := gh) (kind := 3) (by omega)
 have o2 := jke (m := m) (gh := gh) (kind := 2) (by omega)
 have hmx : maxBytes = 140737488355328 := rfl
 have l3 := jjy hm 3
 have l2 := jjy hm 2
 have hr := jqc (gh := gh) h z_good
 have h1 := jqm (m := m) (gh := gh) (V := zVals m) (by omega) hw (by simp only [Sz]; omega) (jql hm) (kindL m.nodes 3).length 0 [] (by omega) (by simp)
 rw [List.drop_zero, List.drop_zero, List.nil_append] at h1
 simp only [List.map_nil, Int.natCast_zero] at h1
 change callL pg 132 _ _ = some (LI (zVals m), gh) at hr
 change runL pg q3z _ = some (_, ⟨[(_, .sl true 1 ((firstL m wish).map I))], _, _⟩) at h1
 have hn := noGs_ints (firstL m wish)
 have e : ∀ n : Nat, List.map I (List.replicate n 0) = List.replicate n (I 0) := fun n => List.map_replicate
 unfold zStates zInputs at hr
 simp only [LI, e] at hr h1 hn o3 o2 ⊢
 generalize (firstL m wish).map I = F at *
 have b3 : mkOk ((kindL m.nodes 3).length : Int) 8 1 (I 0) = true := by simp [mkOk]; omega
 have b2 : mkOk ((kindL m.nodes 2).length : Int) 8 1 (I 0) = true := by simp [mkOk]; omega
 have q3 : ((kindL m.nodes 3).map I).length = (kindL m.nodes 3).length := by simp
 have q2 : ((kindL m.nodes 2).map I).length = (kindL m.nodes 2).length := by simp
 generalize (kindL m.nodes 3).map I = K3 at *
 generalize (kindL m.nodes 2).map I = K2 at *
 generalize (kindL m.nodes 3).length = n3 at *
 generalize (kindL m.nodes 2).length = n2 at *
 subst q3 q2
 have k2 := qfc_ (pg := pg) (gh := gh) (v7 := .sl true 1 F) (e := .ret) (s := ⟨[(4, .sl false 1 F)], [], gh⟩) (by simp [qfc])
 rw [ji9] at *
 refine ji3 (fn := q7m) (s := ⟨[(4, .sl false 1 F)], [], gh⟩) rfl rfl (qfd_ ?h1) ?r1
 case h1 => simp [qfd, o3, o2, b3, b2, isFlat, hr, h1, k2]
 case r1 => simp [finish, results, q7m, resOfs, resOf, resOk, hn]
theorem jmy {L : List Nd} {ns vs : List Int} (h : wordsE L ns vs = 0) : vs.length = ns.length := by
 unfold wordsE at h
 split at h
 ·cases h
 ·omega
end
end Go.Lw
end

/-! Steps of a model, and what is looked at. -/
section
namespace Go.Lw
open Go
theorem jmz {m : Md} (h : checkE m = 0) : pairsAll m (hangF [] m.nodes) = 0 ∧ marksE m = 0 := by
 unfold checkE at h
 split at h
 ·contradiction
 split at h
 ·contradiction
 split at h
 ·contradiction
 split at h
 ·contradiction
 rename_i h4
 exact ⟨Classical.byContradiction h4, h⟩
theorem jqn {l : List Nd} {f : List Bool} {b : Bool} : ∀ {ps : List (Int × Int)}, pairsE l f b ps = 0 → ∀ p ∈ ps, p.1 ∈ kindL l 3
 | [], _, p, hp => by cases hp
 | q :: ps, h, p, hp => by
  rw [pairsE] at h
  split at h
  ·rename_i h0
   rcases List.mem_cons.1 hp with rfl | hp
   ·unfold pairE at h0
    split at h0
    ·contradiction
    rename_i hn
    have hi : isNo l p.1 := Classical.byContradiction fun h => hn (.inl h)
    have hk : (l.getD p.1.toNat default).k = 3 := Classical.byContradiction fun h => hn (.inr (.inr h))
    refine kindF_mem.2 ⟨p.1.toNat, hi.2, ?_, ?_⟩
    ·have := hi.1; omega
    ·rw [List.getD_eq_getElem?_getD, List.getElem?_eq_getElem hi.2] at hk
     rw [List.getElem?_eq_getElem hi.2]
     simpa using hk
   ·exact jqn h p hp
  ·contradiction
theorem jxq {ps : List (Int × Int)} {s : Int} (h : s ∈ ps.map (·.1)) : hasP ps s = true := by
 obtain ⟨p, hp, rfl⟩ := List.mem_map.1 h
 exact List.any_eq_true.2 ⟨p, hp, decide_eq_true rfl⟩
theorem jn0 {m : Md} (h : checkE m = 0) : ∀ s ∈ kindL m.nodes 3, hasP m.nexts s = true := by
 intro s hs
 refine jxq (Classical.byContradiction fun hn => ?_)
 obtain ⟨hp, hk⟩ := jmz h
 have hle : (kindL m.nodes 3).length ≤ m.nexts.length := by
  unfold marksE at hk
  split at hk
  ·contradiction
  ·omega
 have hz : pairsE m.nodes (hangF [] m.nodes) false m.nexts = 0 := by
  unfold pairsAll at hp
  split at hp
  ·contradiction
  split at hp
  ·contradiction
  rename_i h2
  exact Classical.byContradiction h2
 have hd : (s :: m.nexts.map (·.1)).Nodup := List.nodup_cons.2 ⟨hn, (jit h).nod2⟩
 have := List.Nodup.length_le_of_subset hd (l₂ := kindL m.nodes 3) (fun a ha => by
  rcases List.mem_cons.1 ha with rfl | ha
  ·exact hs
  ·obtain ⟨p, hp, rfl⟩ := List.mem_map.1 ha
   exact jqn hz p hp)
 simp at this
 omega
theorem jqo {m : Md} (h : checkE m = 0) : ∀ a ∈ m.bads ++ m.holds, isNo m.nodes a := by
 obtain ⟨-, hk⟩ := jmz h
 unfold marksE at hk
 split at hk
 ·contradiction
 split at hk
 ·contradiction
 rename_i h2
 intro a ha
 exact Classical.byContradiction fun hn => h2 (List.any_eq_true.2 ⟨a, ha, by simp [hn]⟩)
theorem jqp {m : Md} (h : checkE m = 0) : m.bads.length ≤ 8 ∧ m.holds.length ≤ 8 := by
 unfold checkE at h
 split at h
 ·contradiction
 omega
def nextF (V : List Int) (ps : List (Int × Int)) (st : List Int) : List Int := st.map fun s => V.getD (pairOf ps s).toNat 0
def nextL (m : Md) (V : List Int) : List Int := nextF V m.nexts (kindL m.nodes 3)
theorem jqq (V : List Int) (ps : List (Int × Int)) (s : Int) (st : List Int) : nextF V ps (s :: st) = V.getD (pairOf ps s).toNat 0 :: nextF V ps st := rfl
section
variable {m : Md} {gh : List GObj}
theorem jqr {V : List Int} {ps : List (Int × Int)} (hl : Sz ps.length) (hn : (ps.map (·.1)).Nodup) (hp : ∀ p ∈ ps, 0 ≤ p.2 ∧ p.2.toNat < V.length) : ∀ k i, i + k = ps.length →
  runL pg q3i ⟨[(1, LI V), (2, .ptr false 0 0), (5, .mp gh.length), (13, LP ps), (14, I ps.length), (15, I (i : Int))], [[LN m.nodes, LP m.inits, LP m.nexts, LI m.bads, LI m.holds]], gh ++ [.map (mapI (byM V (ps.take i)))]⟩ =
   some (.normal, ⟨[(2, .ptr false 0 0), (5, .mp gh.length)], [[LN m.nodes, LP m.inits, LP m.nexts, LI m.bads, LI m.holds]], gh ++ [.map (mapI (byM V ps))]⟩)
 | 0, i, h => by
  rw [List.take_of_length_le (by omega)]
  have hlt : ¬ (i : Int) < (ps.length : Int) := by omega
  refine (ji7 (s1 := ?s1) (q9f_ ?h1)).trans ?r1
  case h1 => simp only [q9f, decide_eq_false hlt, jim]; rfl
  case r1 => simp [keep, stays]
 | k + 1, i, h => by
  have hlt : i < ps.length := by omega
  have hltI : (i : Int) < (ps.length : Int) := by omega
  have e2 : IntKind.i64.wrap ((i : Int) + 1) = ((i + 1 : Nat) : Int) := jip (by simp only [Sz] at hl ⊢; omega)
  have hg : (ps.map andV)[i]? = some (andV ps[i]) := by simp [List.getElem?_eq_getElem hlt]
  have hs := jqg (V := V) hn hlt
  obtain ⟨q0, q1⟩ := hp _ (List.getElem_mem hlt)
  have hv := vget q1
  refine ji4 (s1 := ⟨[(1, LI V), (2, .ptr false 0 0), (5, .mp gh.length), (13, LP ps), (14, I ps.length), (15, I ((i + 1 : Nat) : Int))], [[LN m.nodes, LP m.inits, LP m.nexts, LI m.bads, LI m.holds]], gh ++ [GObj.map (mapI (byM V (ps.take (i + 1))))]⟩) (q9f_ ?_) (jqr hl hn hp k (i + 1) (by omega))
  generalize ps[i] = p at *
  rw [jj7] at hg
  generalize V.getD p.2.toNat 0 = v at *
  generalize byM V (ps.take (i + 1)) = M2 at *
  generalize byM V (ps.take i) = M1 at *
  have hmu := fun f => jm6 (R := IExit × St) gh M1 p.1 v f
  rw [hs] at hmu
  simp [q9f, hltI, hg, q0, hv, e2, hmu, -List.getElem?_map, -lkX_mp, -muX_mp]
theorem jqs {V st : List Int} {ps : List (Int × Int)} (hl : st.length ≤ 1000) (hall : ∀ s ∈ st, hasP ps s = true) : ∀ k i acc, i + k = st.length → acc.length ≤ i →
  runL pg q3j ⟨[(5, .mp gh.length), (8, .sl true 1 (acc.map I)), (29, LI st), (30, I st.length), (31, I (i : Int))], [], gh ++ [.map (mapI (byM V ps))]⟩ =
   some (.normal, ⟨[(8, .sl true 1 ((acc ++ nextF V ps (st.drop i)).map I))], [], gh ++ [.map (mapI (byM V ps))]⟩)
 | 0, i, acc, h, _ => by
  rw [List.drop_eq_nil_of_le (by omega)]
  have hlt : ¬ (i : Int) < (st.length : Int) := by omega
  refine (ji7 (s1 := ?s1) (q9g_ ?h1)).trans ?r1
  case h1 => simp only [q9g, decide_eq_false hlt, jim]; rfl
  case r1 => simp [keep, stays, nextF]
 | k + 1, i, acc, h, ha => by
  have hlt : i < st.length := by omega
  have hltI : (i : Int) < (st.length : Int) := by omega
  have e2 : IntKind.i64.wrap ((i : Int) + 1) = ((i + 1 : Nat) : Int) := by rw [ji5 (by omega) (by omega)]; omega
  have hg : (st.map I)[i]? = some (I st[i]) := by simp [List.getElem?_eq_getElem hlt]
  have hmx : ((acc.map I).length + 1) * 8 ≤ maxBytes := by
   have : maxBytes = 140737488355328 := rfl
   simp; omega
  have hf := jmx (V := V) (ps := ps) (s := st[i])
  rw [hall _ (List.getElem_mem hlt), if_pos rfl] at hf
  rw [List.drop_eq_getElem_cons hlt, jqq, List.append_cons acc]
  refine ji4 (s1 := ⟨[(5, .mp gh.length), (8, .sl true 1 ((acc ++ [V.getD (pairOf ps st[i]).toNat 0]).map I)), (29, LI st), (30, I st.length), (31, I ((i + 1 : Nat) : Int))], [], gh ++ [GObj.map (mapI (byM V ps))]⟩) (q9g_ ?_) (jqs hl hall k (i + 1) _ (by omega) (by simp; omega))
  rw [jl5]
  generalize acc.map I = A at *
  generalize byM V ps = M at *
  generalize V.getD (pairOf ps st[i]).toNat 0 = v at *
  generalize st[i] = a at *
  have hlk := fun f => jp3 (R := IExit × St) gh M a f
  rw [hf] at hlk
  simp [q9g, hltI, hg, hlk, hmx, e2, -List.getElem?_map, -lkX_mp]
theorem jqt {m : Md} {V : List Int} (hm : MdGood m) (hV : V.length = m.nodes.length) : ∀ p ∈ m.nexts, 0 ≤ p.2 ∧ p.2.toNat < V.length := fun p hp => by
 have := (hm.pairs p (List.mem_append.2 (.inr hp))).2
 rw [hV]
 exact this
theorem jxr {V : List Int} (h : checkE m = 0) (hV : V.length = m.nodes.length) : callL pg 140 [modelV m, LI V] gh = some (LI (nextL m V), gh) := by
 have hm := jit h
 have hl := hm.len
 have hpl := (jl6 hm).2
 have o3 := Ofk_eq (m := m) (gh := gh ++ [GObj.map (mapI (byM V m.nexts))]) (kind := 3) (by omega)
 have l3 := jjy hm 3
 have h1 := jqr (m := m) (gh := gh) (V := V) (by simp only [Sz]; omega) hm.nod2 (jqt hm hV) m.nexts.length 0 (by omega)
 have h2 := jqs (gh := gh) (V := V) (ps := m.nexts) (by omega) (jn0 h) (kindL m.nodes 3).length 0 [] (by omega) (by simp)
 rw [List.drop_zero, List.nil_append] at h2
 simp only [List.take_zero, List.map_nil, Int.natCast_zero] at h1 h2
 change runL pg q3i ⟨_, _, gh ++ [GObj.map []]⟩ = _ at h1
 change runL pg q3j _ = some (_, ⟨[(_, .sl true 1 ((nextL m V).map I))], _, _⟩) at h2
 have hn := noGs_ints (nextL m V)
 generalize nextL m V = F at *
 generalize mapI (byM V m.nexts) = MM at *
 have k2 : runL pg q3k ⟨[(8, .sl true 1 (F.map I))], [], gh ++ [GObj.map MM]⟩ = some (.ret, ⟨[(4, .sl false 1 (F.map I))], [], gh ++ [GObj.map MM]⟩) := by
  refine qfe_ ?_
  simp [qfe]
 rw [ji9] at *
 have k1 : runL pg q3l ⟨[(2, .ptr false 0 0), (5, .mp gh.length)], [[LN m.nodes, LP m.inits, LP m.nexts, LI m.bads, LI m.holds]], gh ++ [GObj.map MM]⟩ = some (.ret, ⟨[(4, .sl false 1 (F.map I))], [], gh ++ [GObj.map MM]⟩) := by
  refine qff_ ?_
  simp [qff, o3, h2, k2]
 refine ji3 (fn := q5n) (s := ⟨[(4, .sl false 1 (F.map I))], [], gh ++ [GObj.map MM]⟩) rfl rfl (qfg_ ?h1) ?r1
 case h1 => simp [qfg, h1, k1]
 case r1 => simp [finish, results, q5n, resOfs, resOf, resOk, hn]
theorem jqu {V st : List Int} (hl : st.length ≤ 1000) (hs : Sz m.nexts.length) (hp : ∀ p ∈ m.nexts, 0 ≤ p.2 ∧ p.2.toNat < V.length) (hall : ∀ s ∈ st, hasP m.nexts s = true) : ∀ k i acc, i + k = st.length → acc.length ≤ i →
  runL pg q41 ⟨[(1, LI V), (2, .ptr false 0 0), (5, LI st), (6, .sl true 1 (acc.map I)), (7, I (i : Int))], [[LN m.nodes, LP m.inits, LP m.nexts, LI m.bads, LI m.holds]], gh⟩ =
   some (.normal, ⟨[(6, .sl true 1 ((acc ++ nextF V m.nexts (st.drop i)).map I))], [], gh⟩)
 | 0, i, acc, h, _ => by
  rw [List.drop_eq_nil_of_le (by omega)]
  have hlt : ¬ i < st.length := by omega
  refine (ji7 (s1 := ?s1) (q9i_ ?h1)).trans ?r1
  case h1 => simp [q9i, hlt]; rfl
  case r1 => simp [keep, stays, nextF]
 | k + 1, i, acc, h, ha => by
  have hlt : i < st.length := by omega
  have hltD : decide (i < st.length) = true := decide_eq_true hlt
  have e2 : IntKind.i64.wrap ((i : Int) + 1) = ((i + 1 : Nat) : Int) := by rw [ji5 (by omega) (by omega)]; omega
  have hg : (st.map I)[i]? = some (I st[i]) := by simp [List.getElem?_eq_getElem hlt]
  have hmx : ((acc.map I).length + 1) * 8 ≤ maxBytes := by
   have : maxBytes = 140737488355328 := rfl
   simp; omega
  rw [List.drop_eq_getElem_cons hlt, jqq, List.append_cons acc]
  refine ji4 (s1 := ⟨[(1, LI V), (2, .ptr false 0 0), (5, LI st), (6, .sl true 1 ((acc ++ [V.getD (pairOf m.nexts st[i]).toNat 0]).map I)), (7, I ((i + 1 : Nat) : Int))], [[LN m.nodes, LP m.inits, LP m.nexts, LI m.bads, LI m.holds]], gh⟩) (q9i_ ?_) (jqu hl hs hp hall k (i + 1) _ (by omega) (by simp; omega))
  have hc := jqe (gh := gh) (s := st[i]) hs
  have hh := hall _ (List.getElem_mem hlt)
  rw [jl5]
  generalize acc.map I = A at *
  generalize st[i] = a at *
  have hq := hp _ (jjx hh)
  have hv := vget hq.2
  have h0 := hq.1
  simp only at h0 hv
  generalize V.getD (pairOf m.nexts a).toNat 0 = v at *
  generalize pairOf m.nexts a = n at *
  simp [q9i, hltD, hg, hc, h0, hv, hmx, e2, -List.getElem?_map]
theorem jxs {V : List Int} (h : checkE m = 0) (hV : V.length = m.nodes.length) : callL pg 133 [modelV m, LI V] gh = some (LI (nextL m V), gh) := by
 have hm := jit h
 have hl := hm.len
 have hpl := (jl6 hm).2
 have o3 := jke (m := m) (gh := gh) (kind := 3) (by omega)
 have l3 := jjy hm 3
 have h1 := jqu (m := m) (gh := gh) (V := V) (by omega) (by simp only [Sz]; omega) (jqt hm hV) (jn0 h) (kindL m.nodes 3).length 0 [] (by omega) (by simp)
 rw [List.drop_zero, List.nil_append] at h1
 simp only [List.map_nil, Int.natCast_zero] at h1
 change runL pg q41 _ = some (_, ⟨[(_, .sl true 1 ((nextL m V).map I))], _, _⟩) at h1
 have hn := noGs_ints (nextL m V)
 simp only [LI] at h1 o3 hn ⊢
 generalize (nextL m V).map I = F at *
 generalize (kindL m.nodes 3).map I = K3 at *
 have k1 := qfh_ (pg := pg) (gh := gh) (v6 := .sl true 1 F) (e := .ret) (s := ⟨[(4, .sl false 1 F)], [], gh⟩) (by simp [qfh])
 rw [ji9] at *
 refine ji3 (fn := q7q) (s := ⟨[(4, .sl false 1 F)], [], gh⟩) rfl rfl (qfi_ ?h1) ?r1
 case h1 => simp [qfi, o3, h1, k1]
 case r1 => simp [finish, results, q7q, resOfs, resOf, resOk, hn]
def isOne (V : List Int) (a : Int) : Bool := decide (V.getD a.toNat 0 = 1)
theorem jqv {V l : List Int} {b7 : Bool} (hl : l.length ≤ 1000) (hp : ∀ a ∈ l, 0 ≤ a ∧ a.toNat < V.length) : ∀ k i b6, i + k = l.length →
  runL pg q3m ⟨[(1, LI V), (2, .ptr false 0 0), (6, B b6), (7, B b7), (13, LI l), (14, I l.length), (15, I (i : Int))], [[LN m.nodes, LP m.inits, LP m.nexts, LI m.bads, LI m.holds]], gh⟩ =
   some (.normal, ⟨[(1, LI V), (2, .ptr false 0 0), (6, B (b6 && (l.drop i).all (isOne V))), (7, B b7)], [[LN m.nodes, LP m.inits, LP m.nexts, LI m.bads, LI m.holds]], gh⟩)
 | 0, i, b6, h => by
  rw [List.drop_eq_nil_of_le (by omega)]
  have hlt : ¬ (i : Int) < (l.length : Int) := by omega
  refine (ji7 (s1 := ?s1) (q5d_ ?h1)).trans ?r1
  case h1 => simp only [q5d, decide_eq_false hlt, jim]; rfl
  case r1 => simp [keep, stays]
 | k + 1, i, b6, h => by
  have hlt : i < l.length := by omega
  have hltI : (i : Int) < (l.length : Int) := by omega
  have e2 : IntKind.i64.wrap ((i : Int) + 1) = ((i + 1 : Nat) : Int) := by rw [ji5 (by omega) (by omega)]; omega
  have hg : (l.map I)[i]? = some (I l[i]) := by simp [List.getElem?_eq_getElem hlt]
  obtain ⟨q0, q1⟩ := hp _ (List.getElem_mem hlt)
  have hv := vget q1
  rw [List.drop_eq_getElem_cons hlt, List.all_cons, ← Bool.and_assoc]
  refine ji4 (s1 := ⟨[(1, LI V), (2, .ptr false 0 0), (6, B (b6 && isOne V l[i])), (7, B b7), (13, LI l), (14, I l.length), (15, I ((i + 1 : Nat) : Int))], [[LN m.nodes, LP m.inits, LP m.nexts, LI m.bads, LI m.holds]], gh⟩) (q5d_ ?_) (jqv hl hp k (i + 1) _ (by omega))
  unfold isOne
  generalize l[i] = a at *
  generalize V.getD a.toNat 0 = v at *
  cases b6
  ·simp [q5d, hltI, hg, e2, -List.getElem?_map]
  ·simp [q5d, hltI, hg, q0, hv, e2, -List.getElem?_map]
theorem jqw {V l : List Int} {b6 : Bool} (hl : l.length ≤ 1000) (hp : ∀ a ∈ l, 0 ≤ a ∧ a.toNat < V.length) : ∀ k i b7, i + k = l.length →
  runL pg q3n ⟨[(1, LI V), (6, B b6), (7, B b7), (29, LI l), (30, I l.length), (31, I (i : Int))], [], gh⟩ =
   some (.normal, ⟨[(6, B b6), (7, B (b7 || (l.drop i).any (isOne V)))], [], gh⟩)
 | 0, i, b7, h => by
  rw [List.drop_eq_nil_of_le (by omega)]
  have hlt : ¬ (i : Int) < (l.length : Int) := by omega
  refine (ji7 (s1 := ?s1) (q5e_ ?h1)).trans ?r1
  case h1 => simp only [q5e, decide_eq_false hlt, jim]; rfl
  case r1 => simp [keep, stays]
 | k + 1, i, b7, h => by
  have hlt : i < l.length := by omega
  have hltI : (i : Int) < (l.length : Int) := by omega
  have e2 : IntKind.i64.wrap ((i : Int) + 1) = ((i + 1 : Nat) : Int) := by rw [ji5 (by omega) (by omega)]; omega
  have hg : (l.map I)[i]? = some (I l[i]) := by simp [List.getElem?_eq_getElem hlt]
  obtain ⟨q0, q1⟩ := hp _ (List.getElem_mem hlt)
  have hv := vget q1
  rw [List.drop_eq_getElem_cons hlt, List.any_cons, ← Bool.or_assoc]
  refine ji4 (s1 := ⟨[(1, LI V), (6, B b6), (7, B (b7 || isOne V l[i])), (29, LI l), (30, I l.length), (31, I ((i + 1 : Nat) : Int))], [], gh⟩) (q5e_ ?_) (jqw hl hp k (i + 1) _ (by omega))
  unfold isOne
  generalize l[i] = a at *
  generalize V.getD a.toNat 0 = v at *
  cases b7
  ·simp [q5e, hltI, hg, q0, hv, e2, -List.getElem?_map]
  ·simp [q5e, hltI, hg, e2, -List.getElem?_map]
def holdsB (m : Md) (V : List Int) : Bool := m.holds.all (isOne V)
def badB (m : Md) (V : List Int) : Bool := m.bads.any (isOne V)
theorem jqx {m : Md} {V : List Int} (h : checkE m = 0) (hV : V.length = m.nodes.length) : (∀ a ∈ m.bads, 0 ≤ a ∧ a.toNat < V.length) ∧ (∀ a ∈ m.holds, 0 ≤ a ∧ a.toNat < V.length) := by
 rw [hV]
 exact ⟨fun a ha => jqo h a (List.mem_append.2 (.inl ha)), fun a ha => jqo h a (List.mem_append.2 (.inr ha))⟩
theorem jxt {V : List Int} (h : checkE m = 0) (hV : V.length = m.nodes.length) : callL pg 141 [modelV m, LI V] gh = some (.tup [B (holdsB m V), B (badB m V)], gh) := by
 obtain ⟨lb, lh⟩ := jqp h
 obtain ⟨ib, ih⟩ := jqx h hV
 have h1 := jqv (m := m) (gh := gh) (b7 := false) (by omega) ih m.holds.length 0 true (by omega)
 rw [List.drop_zero, Bool.true_and] at h1
 change runL pg q3m _ = some (_, ⟨[_, _, (_, B (holdsB m V)), _], _, _⟩) at h1
 have h2 := jqw (gh := gh) (b6 := holdsB m V) (by omega) ib m.bads.length 0 false (by omega)
 rw [List.drop_zero, Bool.false_or] at h2
 change runL pg q3n _ = some (_, ⟨[_, (_, B (badB m V))], _, _⟩) at h2
 simp only [Int.natCast_zero] at h1 h2
 generalize holdsB m V = b at *
 generalize badB m V = c at *
 have k2 := qhu_ (pg := pg) (gh := gh) (b6 := b) (b7 := c) rfl
 have k1 : runL pg q3o ⟨[(1, LI V), (2, .ptr false 0 0), (6, B b), (7, B false)], [[LN m.nodes, LP m.inits, LP m.nexts, LI m.bads, LI m.holds]], gh⟩ = some (.ret, ⟨[(4, B b), (5, B c)], [], gh⟩) := by
  refine qfj_ ?_
  simp [qfj, h2, k2]
 rw [ji9]
 refine ji3 (fn := q5p) (s := ⟨[(4, B b), (5, B c)], [], gh⟩) rfl rfl (qfk_ ?h1) ?r1
 case h1 => simp [qfk, h1, k1]
 case r1 => simp [finish, results, q5p, resOfs, resOf, resOk]
theorem jqy {V : List Int} {b7 : Bool} (hl : m.holds.length ≤ 1000) (hp : ∀ a ∈ m.holds, 0 ≤ a ∧ a.toNat < V.length) : ∀ k i b6, i + k = m.holds.length →
  runL pg q42 ⟨[(1, LI V), (2, .ptr false 0 0), (6, B b6), (7, B b7), (8, I (i : Int))], [[LN m.nodes, LP m.inits, LP m.nexts, LI m.bads, LI m.holds]], gh⟩ =
   some (.normal, ⟨[(1, LI V), (2, .ptr false 0 0), (6, B (b6 && (m.holds.drop i).all (isOne V))), (7, B b7)], [[LN m.nodes, LP m.inits, LP m.nexts, LI m.bads, LI m.holds]], gh⟩)
 | 0, i, b6, h => by
  rw [List.drop_eq_nil_of_le (by omega)]
  have hlt : ¬ i < m.holds.length := by omega
  refine (ji7 (s1 := ?s1) (q5f_ ?h1)).trans ?r1
  case h1 => simp [q5f, hlt]; rfl
  case r1 => simp [keep, stays]
 | k + 1, i, b6, h => by
  have hlt : i < m.holds.length := by omega
  have hltD : decide (i < m.holds.length) = true := decide_eq_true hlt
  have e2 : IntKind.i64.wrap ((i : Int) + 1) = ((i + 1 : Nat) : Int) := by rw [ji5 (by omega) (by omega)]; omega
  have hg : (m.holds.map I)[i]? = some (I m.holds[i]) := by simp [List.getElem?_eq_getElem hlt]
  obtain ⟨q0, q1⟩ := hp _ (List.getElem_mem hlt)
  have hv := vget q1
  rw [List.drop_eq_getElem_cons hlt, List.all_cons, ← Bool.and_assoc]
  refine ji4 (s1 := ⟨[(1, LI V), (2, .ptr false 0 0), (6, B (b6 && isOne V m.holds[i])), (7, B b7), (8, I ((i + 1 : Nat) : Int))], [[LN m.nodes, LP m.inits, LP m.nexts, LI m.bads, LI m.holds]], gh⟩) (q5f_ ?_) (jqy hl hp k (i + 1) _ (by omega))
  unfold isOne
  generalize m.holds[i] = a at *
  generalize V.getD a.toNat 0 = v at *
  cases b6
  ·simp [q5f, hltD, e2, -List.getElem?_map]
  ·simp [q5f, hltD, hg, q0, hv, e2, -List.getElem?_map]
theorem jqz {V : List Int} {b6 : Bool} (hl : m.bads.length ≤ 1000) (hp : ∀ a ∈ m.bads, 0 ≤ a ∧ a.toNat < V.length) : ∀ k i b7, i + k = m.bads.length →
  runL pg q43 ⟨[(1, LI V), (2, .ptr false 0 0), (6, B b6), (7, B b7), (9, I (i : Int))], [[LN m.nodes, LP m.inits, LP m.nexts, LI m.bads, LI m.holds]], gh⟩ =
   some (.normal, ⟨[(6, B b6), (7, B (b7 || (m.bads.drop i).any (isOne V)))], [], gh⟩)
 | 0, i, b7, h => by
  rw [List.drop_eq_nil_of_le (by omega)]
  have hlt : ¬ i < m.bads.length := by omega
  refine (ji7 (s1 := ?s1) (q5g_ ?h1)).trans ?r1
  case h1 => simp [q5g, hlt]; rfl
  case r1 => simp [keep, stays]
 | k + 1, i, b7, h => by
  have hlt : i < m.bads.length := by omega
  have hltD : decide (i < m.bads.length) = true := decide_eq_true hlt
  have e2 : IntKind.i64.wrap ((i : Int) + 1) = ((i + 1 : Nat) : Int) := by rw [ji5 (by omega) (by omega)]; omega
  have hg : (m.bads.map I)[i]? = some (I m.bads[i]) := by simp [List.getElem?_eq_getElem hlt]
  obtain ⟨q0, q1⟩ := hp _ (List.getElem_mem hlt)
  have hv := vget q1
  rw [List.drop_eq_getElem_cons hlt, List.any_cons, ← Bool.or_assoc]
  refine ji4 (s1 := ⟨[(1, LI V), (2, .ptr false 0 0), (6, B b6), (7, B (b7 || isOne V m.bads[i])), (9, I ((i + 1 : Nat) : Int))], [[LN m.nodes, LP m.inits, LP m.nexts, LI m.bads, LI m.holds]], gh⟩) (q5g_ ?_) (jqz hl hp k (i + 1) _ (by omega))
  unfold isOne
  generalize m.bads[i] = a at *
  generalize V.getD a.toNat 0 = v at *
  cases b7
  ·simp [q5g, hltD, hg, q0, hv, e2, -List.getElem?_map]
  ·simp [q5g, hltD, e2, -List.getElem?_map]
theorem jxu {V : List Int} (h : checkE m = 0) (hV : V.length = m.nodes.length) : callL pg 134 [modelV m, LI V] gh = some (.tup [B (holdsB m V), B (badB m V)], gh) := by
 obtain ⟨lb, lh⟩ := jqp h
 obtain ⟨ib, ih⟩ := jqx h hV
 have h1 := jqy (m := m) (gh := gh) (b7 := false) (by omega) ih m.holds.length 0 true (by omega)
 rw [List.drop_zero, Bool.true_and] at h1
 change runL pg q42 _ = some (_, ⟨[_, _, (_, B (holdsB m V)), _], _, _⟩) at h1
 have h2 := jqz (m := m) (gh := gh) (b6 := holdsB m V) (by omega) ib m.bads.length 0 false (by omega)
 rw [List.drop_zero, Bool.false_or] at h2
 change runL pg q43 _ = some (_, ⟨[_, (_, B (badB m V))], _, _⟩) at h2
 simp only [Int.natCast_zero] at h1 h2
 generalize holdsB m V = b at *
 generalize badB m V = c at *
 have k2 := qhv_ (pg := pg) (gh := gh) (b6 := b) (b7 := c) rfl
 have k1 : runL pg q44 ⟨[(1, LI V), (2, .ptr false 0 0), (6, B b), (7, B false)], [[LN m.nodes, LP m.inits, LP m.nexts, LI m.bads, LI m.holds]], gh⟩ = some (.ret, ⟨[(4, B b), (5, B c)], [], gh⟩) := by
  refine qfl_ ?_
  simp [qfl, h2, k2]
 rw [ji9]
 refine ji3 (fn := q7s) (s := ⟨[(4, B b), (5, B c)], [], gh⟩) rfl rfl (qfm_ ?h1) ?r1
 case h1 => simp [qfm, h1, k1]
 case r1 => simp [finish, results, q7s, resOfs, resOf, resOk]
end
end Go.Lw
end

/-! Playing a trace: the words of states stay words; the states of each step; trace.Check. -/
section
namespace Go.Lw
open Go
section
variable {m : Md}
theorem jl7 {ss ks : List Int} (h : checkE m = 0) (hg : VGood m.nodes 0 [] ss ks) : InW m.nodes (valsOf m ss ks) := by
 have hz : ∀ (j : Nat) (x : Nd), m.nodes[j]? = some x → nodeE m.nodes j x = 0 := by
  intro j x hx
  have hn : nodesE m.nodes 0 m.nodes = 0 := by
   unfold checkE at h
   split at h
   ·contradiction
   split at h
   ·contradiction
   rename_i h2
   exact Classical.byContradiction h2
  have := jl0 hn j x hx
  rwa [Nat.zero_add] at this
 have := jkf hz m.nodes.length 0 [] ss ks (by omega) hg
 rwa [List.drop_zero] at this
theorem jn1 {l : List Nd} {f : List Bool} {b : Bool} : ∀ {ps : List (Int × Int)}, pairsE l f b ps = 0 → ∀ p ∈ ps, wAt l p.1 = wAt l p.2
 | [], _, p, hp => by cases hp
 | q :: ps, h, p, hp => by
  rw [pairsE] at h
  split at h
  ·rename_i h0
   rcases List.mem_cons.1 hp with rfl | hp
   ·unfold pairE at h0
    split at h0
    ·contradiction
    split at h0
    ·contradiction
    rename_i h2
    exact Classical.byContradiction h2
   ·exact jn1 h p hp
  ·contradiction
theorem jxv (h : checkE m = 0) : ∀ p ∈ m.inits ++ m.nexts, wAt m.nodes p.1 = wAt m.nodes p.2 := by
 obtain ⟨hp, -⟩ := jmz h
 unfold pairsAll at hp
 split at hp
 ·contradiction
 rename_i h1
 split at hp
 ·contradiction
 rename_i h2
 intro p hm
 rcases List.mem_append.1 hm with hm | hm
 ·exact jn1 (Classical.byContradiction h1) p hm
 ·exact jn1 (Classical.byContradiction h2) p hm
theorem jr0 (h : checkE m = 0) {V : List Int} (hV : InW m.nodes V) (hl : V.length = m.nodes.length) {p : Int × Int} (hp : p ∈ m.inits ++ m.nexts) : 0 ≤ V.getD p.2.toNat 0 ∧ V.getD p.2.toNat 0 < ((2 ^ (wAt m.nodes p.1).toNat : Nat) : Int) := by
 have h2 := ((jit h).pairs p hp).2
 rw [jxv h p hp]
 have := hV p.2.toNat (by rw [hl]; exact h2.2)
 rwa [show ((p.2.toNat : Nat) : Int) = p.2 from Int.toNat_of_nonneg h2.1] at this
theorem jn2 (h : checkE m = 0) {V : List Int} (hV : InW m.nodes V) (hl : V.length = m.nodes.length) : wordsE m.nodes (kindL m.nodes 3) (nextL m V) = 0 := by
 have hall := jn0 h
 unfold wordsE nextL nextF
 rw [if_neg (by simp)]
 generalize kindL m.nodes 3 = st at *
 induction st with
 | nil => rfl
 | cons s st ih =>
  rw [List.map_cons, wordsF, if_pos]
  ·exact ih fun a ha => hall a (by simp [ha])
  ·exact jr0 h hV hl (List.mem_append.2 (.inr (jjx (hall s (by simp)))))
theorem jn3 (h : checkE m = 0) {wish : List Int} (hw : wordsE m.nodes (kindL m.nodes 3) wish = 0) : wordsE m.nodes (kindL m.nodes 3) (firstL m wish) = 0 := by
 have hV : InW m.nodes (zVals m) := jl7 h z_good
 have hl : (zVals m).length = m.nodes.length := jjw
 unfold wordsE at hw
 split at hw
 ·cases hw
 rename_i hlen
 have hlen : wish.length = (kindL m.nodes 3).length := Classical.byContradiction hlen
 unfold firstL
 generalize kindL m.nodes 3 = st at *
 have key : ∀ (st wish : List Int), wish.length = st.length → wordsF m.nodes st wish = 0 → (firstF (zVals m) m.inits st wish).length = st.length ∧ wordsF m.nodes st (firstF (zVals m) m.inits st wish) = 0 := by
  intro st
  induction st with
  | nil => intro w _ _; cases w <;> exact ⟨rfl, rfl⟩
  | cons s st ih =>
   intro w hl2 hf
   obtain ⟨v, vs, rfl, h0, h1, h2, h3⟩ := jmt hl2 hf
   obtain ⟨i1, i2⟩ := ih vs h2 h3
   rw [firstF]
   refine ⟨by simp [i1], ?_⟩
   rw [wordsF, if_pos]
   ·exact i2
   ·by_cases hh : hasP m.inits s = true
    ·rw [if_pos hh]
     exact jr0 h hV hl (List.mem_append.2 (.inl (jjx hh)))
    ·rw [if_neg hh]; exact ⟨h0, h1⟩
 obtain ⟨k1, k2⟩ := key st wish hlen hw
 unfold wordsE
 rw [if_neg (by simp [k1])]
 exact k2
def inputsE (m : Md) : List (List Int) → Int
 | [] => 0
 | l :: ls => if wordsE m.nodes (kindL m.nodes 2) l = 0 then inputsE m ls else wordsE m.nodes (kindL m.nodes 2) l
def traceE (m : Md) (st : List Int) (ins : List (List Int)) : Int :=
 if checkE m ≠ 0 then checkE m else if ins.length < 1 ∨ 41 < ins.length then 2 else if wordsE m.nodes (kindL m.nodes 3) st ≠ 0 then wordsE m.nodes (kindL m.nodes 3) st else inputsE m ins
structure TrGood (m : Md) (st : List Int) (ins : List (List Int)) : Prop where
 chk : checkE m = 0
 len : 1 ≤ ins.length ∧ ins.length ≤ 41
 start : wordsE m.nodes (kindL m.nodes 3) st = 0
 inputs : ∀ l ∈ ins, wordsE m.nodes (kindL m.nodes 2) l = 0
theorem jr1 : ∀ {ls : List (List Int)}, inputsE m ls = 0 → ∀ l ∈ ls, wordsE m.nodes (kindL m.nodes 2) l = 0
 | [], _, l, h => by cases h
 | a :: ls, h, l, hl => by
  rw [inputsE] at h
  split at h
  ·rename_i h0
   rcases List.mem_cons.1 hl with rfl | hl
   ·exact h0
   ·exact jr1 h l hl
  ·contradiction
theorem jl8 {st : List Int} {ins : List (List Int)} (h : traceE m st ins = 0) : TrGood m st ins := by
 unfold traceE at h
 split at h
 ·contradiction
 rename_i h1
 split at h
 ·contradiction
 rename_i h2
 split at h
 ·contradiction
 rename_i h3
 exact ⟨Classical.byContradiction h1, by omega, Classical.byContradiction h3, jr1 h⟩
variable {gh : List GObj}
theorem jr2 {ins : List (List Int)} (hm : checkE m = 0) (hn : ins.length ≤ 1000) : ∀ (k i : Nat), i + k = ins.length →
  runL pg q7w ⟨[(2, .ptr false 0 0), (35, LsI ins), (36, I ins.length), (37, I i)], [[LN m.nodes, LP m.inits, LP m.nexts, LI m.bads, LI m.holds]], gh⟩ =
   if inputsE m (ins.drop i) = 0 then some (.normal, ⟨[], [], gh⟩) else some (.ret, ⟨[(4, I (inputsE m (ins.drop i)))], [], gh⟩)
 | 0, i, hk => by
  have hlt : ¬ (i : Int) < (ins.length : Int) := by omega
  rw [List.drop_eq_nil_of_le (by omega), inputsE, if_pos rfl]
  refine (ji7 (s1 := ?s1) (q5h_ ?h1)).trans ?r1
  case h1 => simp only [q5h, decide_eq_false hlt, jim]; rfl
  case r1 => simp [keep, stays]
 | k + 1, i, hk => by
  have hlt : i < ins.length := by omega
  have hltI : (i : Int) < (ins.length : Int) := by omega
  have hx : (ins.map fun l => LI l)[i]? = some (LI ins[i]) := by simp [hlt]
  have hwr : IntKind.i64.wrap ((i : Int) + 1) = ((i + 1 : Nat) : Int) := jip (by simp only [Sz]; omega)
  have ih := jr2 (ins := ins) hm hn k (i + 1) (by omega)
  have hmm := jit hm
  have hl := hmm.len
  have o2 := Ofk_eq (m := m) (gh := gh) (kind := 2) (by omega)
  have l2 : (kindL m.nodes 2).length ≤ 1000 := Nat.le_trans (jjt _ _ _) (by omega)
  have hw := jpz (m := m) (gh := gh) (ns := kindL m.nodes 2) (vs := ins[i]) (jl1 hm 2) l2
  rw [List.drop_eq_getElem_cons hlt, inputsE]
  generalize inputsE m (ins.drop (i + 1)) = rest at *
  generalize wordsE m.nodes (kindL m.nodes 2) ins[i] = e at *
  generalize ins[i] = l at *
  generalize kindL m.nodes 2 = K at *
  obtain ⟨u, hu⟩ : ∃ u : Int, ((i + 1 : Nat) : Int) = u := ⟨_, rfl⟩
  rw [hu] at hwr ih
  rw [ji9] at o2 hw
  simp only [LsI, LI] at *
  have hlI : ins.length = (ins.map fun l => PV.sl false 1 (l.map I)).length := (List.length_map _).symm
  rw [hlI] at ih hltI ⊢
  generalize (ins.map fun l => PV.sl false 1 (l.map I)) = L at *
  generalize l.map I = lL at *
  generalize K.map I = kL at *
  generalize m.bads.map I = bL at *
  generalize m.holds.map I = hL at *
  generalize m.nodes.map nodeV = nL at *
  generalize m.inits.map andV = iL at *
  generalize m.nexts.map andV = xL at *
  by_cases h0 : e = 0
  ·subst h0
   rw [if_pos rfl]
   refine ji4 (q5h_ ?h3) ih
   case h3 => simp [q5h, hltI, hx, o2, hw, hwr]
  ·rw [if_neg h0, if_neg h0]
   refine lp_ret (q5h_ ?h2)
   case h2 => simp [q5h, hltI, hx, o2, hw, h0]
theorem jr3 (hm : checkE m = 0) (k : Int) : (kindL m.nodes k).length ≤ 1000 := by
 have hl := (jit hm).len
 exact Nat.le_trans (jjt _ _ _) (by omega)
theorem jn4 {st : List Int} {ins : List (List Int)} (h1 : Sz m.inits.length) (h2 : Sz m.nexts.length) : callL pg 248 [modelV m, traceV st ins] gh = some (I (traceE m st ins), gh) := by
 have hc := jwf (gh := gh) h1 h2
 have hlI : (ins.map fun l => LI l).length = ins.length := List.length_map _
 unfold traceE
 by_cases h0 : checkE m = 0
 ·rw [if_neg (by omega)]
  rw [h0] at hc
  by_cases hn : ins.length < 1 ∨ 41 < ins.length
  ·rw [if_pos hn]
   rw [ji9] at *
   simp only [traceV, LsI, LI] at *
   by_cases hn1 : ins.length < 1
   ·have d1 : decide ((ins.length : Int) < 1) = true := decide_eq_true (by omega)
    rw [← hlI] at d1
    generalize (ins.map fun l => PV.sl false 1 (l.map I)) = L at *
    generalize st.map I = sL at *
    refine ji3 (fn := qd) (s := ?s1) rfl rfl (q1h_ ?h1) ?r1
    case h1 => simp [q1h, hc, d1]; rfl
    case r1 => simp [finish, results, qd, resOfs, resOf, resOk]
   ·have d1 : decide ((ins.length : Int) < 1) = false := decide_eq_false (by omega)
    have d2 : decide (41 < (ins.length : Int)) = true := decide_eq_true (by omega)
    rw [← hlI] at d1 d2
    generalize (ins.map fun l => PV.sl false 1 (l.map I)) = L at *
    generalize st.map I = sL at *
    refine ji3 (fn := qd) (s := ?s2) rfl rfl (q1h_ ?h2) ?r2
    case h2 => simp [q1h, hc, d1, d2]; rfl
    case r2 => simp [finish, results, qd, resOfs, resOf, resOk]
  ·rw [if_neg hn]
   have hmm := jit h0
   have hl := hmm.len
   have o3 := Ofk_eq (m := m) (gh := gh) (kind := 3) (by omega)
   have hw := jpz (m := m) (gh := gh) (ns := kindL m.nodes 3) (vs := st) (jl1 h0 3) (jr3 h0 3)
   have f1 := jr2 (gh := gh) (ins := ins) h0 (by omega) ins.length 0 (by omega)
   rw [List.drop_zero, Int.natCast_zero] at f1
   have d1 : decide ((ins.length : Int) < 1) = false := decide_eq_false (by omega)
   have d2 : decide (41 < (ins.length : Int)) = false := decide_eq_false (by omega)
   generalize wordsE m.nodes (kindL m.nodes 3) st = e at *
   generalize inputsE m ins = r at *
   generalize kindL m.nodes 3 = K at *
   rw [← hlI] at d1 d2 f1
   rw [ji9] at *
   simp only [traceV, LsI, LI] at *
   generalize (ins.map fun l => PV.sl false 1 (l.map I)) = L at *
   generalize st.map I = sL at *
   generalize K.map I = kL at *
   generalize m.bads.map I = bL at *
   generalize m.holds.map I = hL at *
   generalize m.nodes.map nodeV = nL at *
   generalize m.inits.map andV = iL at *
   generalize m.nexts.map andV = xL at *
   by_cases he : e = 0
   ·subst he
    rw [if_neg (by omega)]
    by_cases hr : r = 0
    ·subst hr
     rw [if_pos rfl] at f1
     have k1 : runL pg q48 ⟨[], [], gh⟩ = some (.ret, ⟨[(4, I 0)], [], gh⟩) := qhw_ rfl
     refine ji3 (fn := qd) (s := ?s3) rfl rfl (q1h_ ?h3) ?r3
     case h3 => simp [q1h, hc, d1, d2, o3, hw, f1, k1]; rfl
     case r3 => simp [finish, results, qd, resOfs, resOf, resOk]
    ·rw [if_neg hr] at f1
     refine ji3 (fn := qd) (s := ?s4) rfl rfl (q1h_ ?h4) ?r4
     case h4 => simp [q1h, hc, d1, d2, o3, hw, f1]; rfl
     case r4 => simp [finish, results, qd, resOfs, resOf, resOk]
   ·rw [if_pos he]
    refine ji3 (fn := qd) (s := ?s5) rfl rfl (q1h_ ?h5) ?r5
    case h5 => simp [q1h, hc, d1, d2, o3, hw, he]; rfl
    case r5 => simp [finish, results, qd, resOfs, resOf, resOk]
 ·rw [if_pos h0]
  generalize checkE m = e at *
  rw [ji9] at *
  simp only [traceV, LsI, LI] at *
  generalize (ins.map fun l => PV.sl false 1 (l.map I)) = L at *
  refine ji3 (fn := qd) (s := ?s6) rfl rfl (q1h_ ?h6) ?r6
  case h6 => simp [q1h, hc, h0]; rfl
  case r6 => simp [finish, results, qd, resOfs, resOf, resOk]
theorem jxw {st : List Int} {ins : List (List Int)} (hm : checkE m = 0) (hn : ins.length ≤ 1000) : ∀ (k i : Nat) (e : Int), i + k = ins.length →
  runL pg q2p ⟨[(2, .ptr false 0 0), (3, .ptr false 1 0), (5, I e), (6, I i)], [[LN m.nodes, LP m.inits, LP m.nexts, LI m.bads, LI m.holds], [LI st, LsI ins]], gh⟩ =
   some (.normal, ⟨[(5, I (if e = 0 then inputsE m (ins.drop i) else e))], [], gh⟩) := by
 intro k
 have stop : ∀ (i : Nat) (e : Int), e ≠ 0 ∨ ins.length ≤ i → runL pg q2p ⟨[(2, .ptr false 0 0), (3, .ptr false 1 0), (5, I e), (6, I i)], [[LN m.nodes, LP m.inits, LP m.nexts, LI m.bads, LI m.holds], [LI st, LsI ins]], gh⟩ = some (.normal, ⟨[(5, I e)], [], gh⟩) := by
  intro i e h
  have hlI : (ins.map fun l => LI l).length = ins.length := List.length_map _
  simp only [LsI, LI] at *
  by_cases hlt : i < ins.length
  ·have h0 : e ≠ 0 := h.resolve_right (by omega)
   have hb : (e == 0) = false := by simp [h0]
   have d : decide ((i : Int) < (ins.length : Int)) = true := decide_eq_true (by omega)
   rw [← hlI] at d
   generalize (ins.map fun l => PV.sl false 1 (l.map I)) = L at *
   refine (ji7 (s1 := ?s1) (q1u_ ?h1)).trans ?r1
   case h1 => simp only [q1u, jk9, isC_sl, jka, d, jiu, hb, jim]; rfl
   case r1 => simp [keep, stays]
  ·have d : decide ((i : Int) < (ins.length : Int)) = false := decide_eq_false (by omega)
   rw [← hlI] at d
   generalize (ins.map fun l => PV.sl false 1 (l.map I)) = L at *
   refine (ji7 (s1 := ?s2) (q1u_ ?h2)).trans ?r2
   case h2 => simp only [q1u, jk9, isC_sl, jka, d, jim]; rfl
   case r2 => simp [keep, stays]
 induction k with
 | zero =>
  intro i e hk
  rw [stop i e (.inr (by omega)), List.drop_eq_nil_of_le (by omega)]
  by_cases he : e = 0
  ·rw [if_pos he, he]; rfl
  ·rw [if_neg he]
 | succ k ih =>
  intro i e hk
  by_cases he0 : e ≠ 0
  ·rw [if_neg he0]; exact stop i e (.inl he0)
  have he : e = 0 := by omega
  subst he
  rw [if_pos rfl]
  have hlt : i < ins.length := by omega
  have hx : (ins.map fun l => LI l)[i]? = some (LI ins[i]) := by simp [hlt]
  have hwr : IntKind.i64.wrap ((i : Int) + 1) = ((i + 1 : Nat) : Int) := jip (by simp only [Sz]; omega)
  have hl := (jit hm).len
  have hw := jq1 (m := m) (gh := gh) (kind := 2) (vs := ins[i]) (by omega) (jl1 hm 2)
  have ih2 := ih (i + 1) (wordsE m.nodes (kindL m.nodes 2) ins[i]) (by omega)
  rw [List.drop_eq_getElem_cons hlt, inputsE]
  generalize wordsE m.nodes (kindL m.nodes 2) ins[i] = e at *
  generalize inputsE m (ins.drop (i + 1)) = rest at *
  generalize ins[i] = l at *
  obtain ⟨u, hu⟩ : ∃ u : Int, ((i + 1 : Nat) : Int) = u := ⟨_, rfl⟩
  rw [hu] at hwr ih2
  have hlI : (ins.map fun l => LI l).length = ins.length := List.length_map _
  have d : decide ((i : Int) < (ins.length : Int)) = true := decide_eq_true (by omega)
  rw [← hlI] at d
  rw [ji9] at hw
  simp only [LsI, LI] at *
  generalize (ins.map fun l => PV.sl false 1 (l.map I)) = L at *
  generalize l.map I = lL at *
  generalize st.map I = sL at *
  generalize m.bads.map I = bL at *
  generalize m.holds.map I = hL at *
  generalize m.nodes.map nodeV = nL at *
  generalize m.inits.map andV = iL at *
  generalize m.nexts.map andV = xL at *
  refine ji4 (q1u_ ?h3) ih2
  case h3 =>
   have d2 : decide (i < L.length) = true := decide_eq_true (by rw [hlI]; exact hlt)
   simp [q1u, d2, hx, hw, hwr]
theorem jxx {st : List Int} {ins : List (List Int)} (h1 : Sz m.inits.length) (h2 : Sz m.nexts.length) : callL pg 376 [modelV m, traceV st ins] gh = some (I (traceE m st ins), gh) := by
 have hc := jwn (gh := gh) h1 h2
 have hlI : (ins.map fun l => LI l).length = ins.length := List.length_map _
 have hb := jio (ins.length : Int) 1 41 gh
 have k3 : ∀ e : Int, runL pg q45 ⟨[(5, I e)], [], gh⟩ = some (.ret, ⟨[(4, I e)], [], gh⟩) := fun e => qhx_ rfl
 have k2 : ∀ e : Int, (checkE m = 0 ∧ ins.length ≤ 1000) ∨ e ≠ 0 → runL pg q2q ⟨[(2, .ptr false 0 0), (3, .ptr false 1 0), (5, I e)], [[LN m.nodes, LP m.inits, LP m.nexts, LI m.bads, LI m.holds], [LI st, LsI ins]], gh⟩ = some (.ret, ⟨[(4, I (if e = 0 then inputsE m ins else e))], [], gh⟩) := by
  intro e he
  have f1 : runL pg q2p ⟨[(2, .ptr false 0 0), (3, .ptr false 1 0), (5, I e), (6, I 0)], [[LN m.nodes, LP m.inits, LP m.nexts, LI m.bads, LI m.holds], [LI st, LsI ins]], gh⟩ = some (.normal, ⟨[(5, I (if e = 0 then inputsE m ins else e))], [], gh⟩) := by
   by_cases h : checkE m = 0 ∧ ins.length ≤ 1000
   ·exact jxw (gh := gh) (st := st) h.1 h.2 ins.length 0 e (by omega)
   ·have h0 : e ≠ 0 := he.resolve_left h
    rw [if_neg h0]
    have hb : (e == 0) = false := by simp [h0]
    simp only [LsI, LI] at *
    generalize (ins.map fun l => PV.sl false 1 (l.map I)) = L at *
    by_cases d : (0 : Int) < (L.length : Int)
    ·refine (ji7 (s1 := ?t1) (q1u_ ?g1)).trans ?q1
     case g1 => simp only [q1u, jk9, isC_sl, jka, decide_eq_true d, jiu, hb, jim]; rfl
     case q1 => simp [keep, stays]
    ·refine (ji7 (s1 := ?t2) (q1u_ ?g2)).trans ?q2
     case g2 => simp only [q1u, jk9, isC_sl, jka, decide_eq_false d, jim]; rfl
     case q2 => simp [keep, stays]
  generalize (if e = 0 then inputsE m ins else e) = r at *
  have k3r := k3 r
  simp only [LsI, LI] at *
  generalize (ins.map fun l => PV.sl false 1 (l.map I)) = L at *
  exact qfn_ (by simp only [qfn, f1, jjr, jm4, k3r])
 have k1 : ∀ e : Int, (checkE m = 0 ∧ ins.length ≤ 1000) ∨ e ≠ 0 → runL pg q1m ⟨[(2, .ptr false 0 0), (3, .ptr false 1 0), (5, I e)], [[LN m.nodes, LP m.inits, LP m.nexts, LI m.bads, LI m.holds], [LI st, LsI ins]], gh⟩ = some (.ret, ⟨[(4, I (if e ≠ 0 then e else if wordsE m.nodes (kindL m.nodes 3) st ≠ 0 then wordsE m.nodes (kindL m.nodes 3) st else inputsE m ins))], [], gh⟩) := by
  intro e he
  refine q9k_ ?_
  by_cases h0 : e = 0
  ·subst h0
   have hh := he.resolve_right (by omega)
   have hl := (jit hh.1).len
   have hw := jq1 (m := m) (gh := gh) (kind := 3) (vs := st) (by omega) (jl1 hh.1 3)
   rw [if_neg (by omega)]
   generalize wordsE m.nodes (kindL m.nodes 3) st = e at *
   have k2e := k2 e (.inl hh)
   have hif : (if e = 0 then inputsE m ins else e) = (if e ≠ 0 then e else inputsE m ins) := by by_cases h : e = 0 <;> simp [h]
   rw [hif] at k2e
   generalize (if e ≠ 0 then e else inputsE m ins) = r at *
   rw [ji9] at hw
   simp only [LsI, LI] at *
   generalize (ins.map fun l => PV.sl false 1 (l.map I)) = L at *
   generalize st.map I = sL at *
   simp [q9k, hw, k2e]
  ·have k2e := k2 e (.inr h0)
   rw [if_neg h0] at k2e
   rw [if_pos h0]
   have hb0 : (e == 0) = false := by simp [h0]
   simp only [LsI, LI] at *
   generalize (ins.map fun l => PV.sl false 1 (l.map I)) = L at *
   simp only [q9k, hb0, jim, k2e, jjr]
 unfold traceE
 by_cases h0 : checkE m = 0
 ·rw [if_neg (by omega)]
  rw [h0] at hc
  by_cases hn : ins.length < 1 ∨ 41 < ins.length
  ·have k1e := k1 2 (.inr (by omega))
   rw [if_pos (by omega)] at k1e
   rw [if_pos hn]
   have hd : decide (1 ≤ (ins.length : Int) ∧ (ins.length : Int) ≤ 41) = false := decide_eq_false (by omega)
   rw [hd, ← hlI] at hb
   rw [ji9] at *
   simp only [traceV, LsI, LI] at *
   generalize (ins.map fun l => PV.sl false 1 (l.map I)) = L at *
   generalize st.map I = sL at *
   refine ji3 (fn := q1a) (s := ?s1) rfl rfl (q5i_ ?h1) ?r1
   case h1 => simp [q5i, hc, hb, k1e]; rfl
   case r1 => simp [finish, results, q1a, resOfs, resOf, resOk]
  ·have k1e := k1 0 (.inl ⟨h0, by omega⟩)
   rw [if_neg (by omega)] at k1e
   rw [if_neg hn]
   generalize (if wordsE m.nodes (kindL m.nodes 3) st ≠ 0 then wordsE m.nodes (kindL m.nodes 3) st else inputsE m ins) = r at *
   have hd : decide (1 ≤ (ins.length : Int) ∧ (ins.length : Int) ≤ 41) = true := decide_eq_true (by omega)
   rw [hd, ← hlI] at hb
   rw [ji9] at *
   simp only [traceV, LsI, LI] at *
   generalize (ins.map fun l => PV.sl false 1 (l.map I)) = L at *
   generalize st.map I = sL at *
   refine ji3 (fn := q1a) (s := ?s2) rfl rfl (q5i_ ?h2) ?r2
   case h2 => simp [q5i, hc, hb, k1e]; rfl
   case r2 => simp [finish, results, q1a, resOfs, resOf, resOk]
 ·have k1e := k1 (checkE m) (.inr h0)
  rw [if_pos h0] at k1e ⊢
  generalize checkE m = e at *
  rw [ji9] at *
  simp only [traceV, LsI, LI] at *
  generalize (ins.map fun l => PV.sl false 1 (l.map I)) = L at *
  generalize st.map I = sL at *
  refine ji3 (fn := q1a) (s := ?s3) rfl rfl (q5i_ ?h3) ?r3
  case h3 => simp [q5i, hc, h0, k1e]; rfl
  case r3 => simp [finish, results, q1a, resOfs, resOf, resOk]
end
end Go.Lw
end

/-! Playing a trace: player, Play, Bad; the document's PlayOf. -/
section
namespace Go.Lw
open Go
def playX {X : Type} (m : Md) (step : X → List Int → List Int → X) : X → List Int → List (List Int) → X
 | x, _, [] => x
 | x, s, k :: ks => playX m step (step x s (valsOf m s k)) (nextL m (valsOf m s k)) ks
section
variable {m : Md} {X : Type} {G : X → List GObj} {step : X → List Int → List Int → X} {μ : X → Nat} {f : Nat} {cs : List PV}
theorem jr4 (hcs : cs.all argOk = true)     (hc : ∀ x s V, V.length = m.nodes.length → μ x ≤ 100 → callL pg f ([LI s, LI V] ++ cs) (G x) = some (.tup [], G (step x s V))) (hμ : ∀ x s V, μ (step x s V) ≤ μ x + 1)
  {ins : List (List Int)} (hm : checkE m = 0) (hk : ∀ l ∈ ins, wordsE m.nodes (kindL m.nodes 2) l = 0) (hn : ins.length ≤ 1000) : ∀ (k i : Nat) (x : X) (s : List Int), i + k = ins.length → μ x + k ≤ 101 → wordsE m.nodes (kindL m.nodes 3) s = 0 →
  runL pg q7y ⟨[(2, .fn f cs), (3, .ptr false 0 0), (6, LI s), (15, LsI ins), (16, I ins.length), (17, I i)], [[LN m.nodes, LP m.inits, LP m.nexts, LI m.bads, LI m.holds]], G x⟩ = some (.normal, ⟨[], [], G (playX m step x s (ins.drop i))⟩)
 | 0, i, x, s, hi, _, _ => by
  have hlt : ¬ (i : Int) < (ins.length : Int) := by omega
  rw [List.drop_eq_nil_of_le (by omega), playX]
  refine (ji7 (s1 := ?s1) (q9l_ ?h1)).trans ?r1
  case h1 => simp only [q9l, decide_eq_false hlt, jim]; rfl
  case r1 => simp [keep, stays]
 | k + 1, i, x, s, hi, hx0, hs => by
  have hlt : i < ins.length := by omega
  have hltI : (i : Int) < (ins.length : Int) := by omega
  have hx : (ins.map fun l => LI l)[i]? = some (LI ins[i]) := by simp [hlt]
  have hwr : IntKind.i64.wrap ((i : Int) + 1) = ((i + 1 : Nat) : Int) := jip (by simp only [Sz]; omega)
  have hg : VGood m.nodes 0 [] s ins[i] := jl2 hs (hk _ (List.getElem_mem hlt))
  have hV : (valsOf m s ins[i]).length = m.nodes.length := jjw
  have e1 := jq9 (gh := G x) hm hg
  have e2 := hc x s (valsOf m s ins[i]) hV (by omega)
  have e3 := jxr (gh := G (step x s (valsOf m s ins[i]))) hm hV
  have hnx := jn2 hm (jl7 hm hg) hV
  have hmu := hμ x s (valsOf m s ins[i])
  have ih := jr4 hcs hc hμ hm hk hn k (i + 1) (step x s (valsOf m s ins[i])) (nextL m (valsOf m s ins[i])) (by omega) (by omega) hnx
  have ha := fun (y : Option (IExit × St)) => jm5 (x := y) hcs
  rw [List.drop_eq_getElem_cons hlt, playX]
  generalize playX m step (step x s (valsOf m s ins[i])) (nextL m (valsOf m s ins[i])) (ins.drop (i + 1)) = R at *
  generalize step x s (valsOf m s ins[i]) = y at *
  generalize nextL m (valsOf m s ins[i]) = nx at *
  generalize valsOf m s ins[i] = V at *
  generalize ins[i] = l at *
  obtain ⟨u, hu⟩ : ∃ u : Int, ((i + 1 : Nat) : Int) = u := ⟨_, rfl⟩
  rw [hu] at hwr ih
  rw [ji9] at *
  simp only [LsI, LI] at *
  have hlI : ins.length = (ins.map fun l => PV.sl false 1 (l.map I)).length := (List.length_map _).symm
  rw [hlI] at ih hltI ⊢
  generalize (ins.map fun l => PV.sl false 1 (l.map I)) = L at *
  generalize l.map I = lL at *
  generalize V.map I = vL at *
  generalize s.map I = sL at *
  generalize nx.map I = nL' at *
  generalize m.bads.map I = bL at *
  generalize m.holds.map I = hL at *
  generalize m.nodes.map nodeV = nL at *
  generalize m.inits.map andV = iL at *
  generalize m.nexts.map andV = xL at *
  refine ji4 (q9l_ ?h3) ih
  case h3 =>
   simp only [List.cons_append, List.nil_append] at e2
   simp [q9l, hltI, hx, e1, ha, e2, e3, hwr]
theorem jr5 (hcs : cs.all argOk = true)
  (hc : ∀ x s V, V.length = m.nodes.length → μ x ≤ 100 → callL pg f ([LI s, LI V] ++ cs) (G x) = some (.tup [], G (step x s V))) (hμ : ∀ x s V, μ (step x s V) ≤ μ x + 1)
  {st : List Int} {ins : List (List Int)} (ht : TrGood m st ins) {x : X} (hx : μ x = 0) :
  callL pg 253 [modelV m, traceV st ins, .fn f cs] (G x) = some (.tup [], G (playX m step x (firstL m st) ins)) := by
 have h1 := jxn (gh := G x) ht.chk (jmy ht.start)
 have h2 := jr4 hcs hc hμ ht.chk ht.inputs (by have := ht.len; omega) ins.length 0 x (firstL m st) (by omega) (by have := ht.len; omega) (jn3 ht.chk ht.start)
 rw [List.drop_zero, Int.natCast_zero] at h2
 generalize playX m step x (firstL m st) ins = R at *
 generalize firstL m st = F at *
 have hlI : (ins.map fun l => LI l).length = ins.length := List.length_map _
 rw [← hlI] at h2
 rw [ji9] at *
 simp only [traceV, LsI, LI] at *
 generalize (ins.map fun l => PV.sl false 1 (l.map I)) = L at *
 generalize st.map I = sL at *
 generalize F.map I = fL at *
 have h3 := qfp_ (pg := pg) (gh := G x) (v0_0 := LN m.nodes) (v0_1 := LP m.inits) (v0_2 := LP m.nexts) (v0_3 := LI m.bads) (v0_4 := LI m.holds) (v1_0 := .sl false 1 sL) (v1_1 := .sl false 1 L) (v2 := .fn f cs) (e := .normal) (s := ⟨[], [], G R⟩) (by
  simp [qfp, h1, h2])
 rw [jkb (fn := q7z) rfl rfl h3]
 simp [finish, results, q7z, resOfs, resOk]
end
def playS (m : Md) (s : List Int) (ks : List (List Int)) : List (List Int) := playX m (fun (x : List (List Int)) s _ => x ++ [s]) [] s ks
def playM (m : Md) (s : List Int) (ks : List (List Int)) : Bool × Bool := playX m (fun (x : Bool × Bool) _ V => (x.1 && holdsB m V, badB m V)) (true, false) s ks
def playL (m : Md) (st : List Int) (ins : List (List Int)) : List (List Int) := if traceE m st ins = 0 then playS m (firstL m st) ins else []
def playB (m : Md) (st : List Int) (ins : List (List Int)) : Bool := if traceE m st ins = 0 then (playM m (firstL m st) ins).1 && (playM m (firstL m st) ins).2 else false
section
variable {m : Md} {gh : List GObj}
def plG (gh : List GObj) (x : List (List Int)) : List GObj := gh ++ [.cells [.sl true 1 (x.map fun l => LI l)]]
theorem jxy {x : List (List Int)} {s V : List Int} (hx : x.length ≤ 100) : callL pg 382 ([LI s, LI V] ++ [.ptr true gh.length 0]) (plG gh x) = some (.tup [], plG gh (x ++ [s])) := by
 have hmx : (x.length + 1) * 24 ≤ maxBytes := by
  have : maxBytes = 140737488355328 := rfl
  omega
 have h1 := qfq_ (pg := pg) (gh := plG gh x) (v0 := LI s) (v1 := LI V) (g2 := gh.length) (o2 := 0) (e := .normal) (s := ⟨[], [], plG gh (x ++ [s])⟩) (by
  simp [qfq, plG, hmx, spliceAt])
 simp only [List.cons_append, List.nil_append]
 rw [jkb (fn := q80) rfl rfl h1]
 simp [finish, results, q80, resOfs, resOk]
theorem noGs_ints' (l : List Int) : noGs (l.map I) = true := by
 induction l with
 | nil => rfl
 | cons a l ih => exact ih
theorem jr6 (P : List (List Int)) : noGs (P.map fun l => LI l) = true := by
 induction P with
 | nil => rfl
 | cons a P ih =>
  rw [List.map_cons, jp2, ih, noG_sl, noGs_ints']; rfl
theorem jxz {st : List Int} {ins : List (List Int)} (h1 : Sz m.inits.length) (h2 : Sz m.nexts.length) : callL pg 375 [modelV m, traceV st ins] gh = some (.tup [LsI (playL m st ins), I (traceE m st ins)], gh) := by
 have hc := jn4 (gh := gh) (st := st) (ins := ins) h1 h2
 unfold playL
 by_cases h0 : traceE m st ins = 0
 ·rw [if_pos h0]
  have ht := jl8 h0
  have hp := jr5 (m := m) (X := List (List Int)) (G := plG gh) (step := fun x s _ => x ++ [s]) (μ := List.length) (f := 382) (cs := [.ptr true gh.length 0]) (by simp) (fun x s V _ hx => jxy hx) (fun x s V => by simp) ht (x := []) rfl
  change callL pg 253 _ _ = some (_, plG gh (playS m (firstL m st) ins)) at hp
  rw [h0] at hc ⊢
  generalize playS m (firstL m st) ins = P at *
  rw [ji9] at *
  have hnb : noGs (P.map fun l => LI l) = true := jr6 P
  simp only [traceV, LsI, LI, plG, List.map_nil] at *
  generalize (ins.map fun l => PV.sl false 1 (l.map I)) = L at *
  generalize (P.map fun l => PV.sl false 1 (l.map I)) = pL at *
  generalize st.map I = sL at *
  refine ji3 (fn := q2s) (s := ?s1) rfl rfl (q9m_ ?h1) ?r1
  case h1 => simp [q9m, hc, hp]; rfl
  case r1 => simp [finish, results, q2s, resOfs, resOf, resOk, hnb]
 ·rw [if_neg h0]
  generalize traceE m st ins = e at *
  rw [ji9] at *
  simp only [traceV, LsI, LI] at *
  generalize (ins.map fun l => PV.sl false 1 (l.map I)) = L at *
  generalize st.map I = sL at *
  refine ji3 (fn := q2s) (s := ?s2) rfl rfl (q9m_ ?h2) ?r2
  case h2 => simp [q9m, hc, h0]; rfl
  case r2 => simp [finish, results, q2s, resOfs, resOf, resOk]
def bdG (gh : List GObj) (m : Md) (x : Bool × Bool) : List GObj := gh ++ [.cells [LN m.nodes, LP m.inits, LP m.nexts, LI m.bads, LI m.holds], .cells [B x.1], .cells [B x.2]]
theorem jy0 {x : Bool × Bool} {s V : List Int} (hm : checkE m = 0) (hV : V.length = m.nodes.length) : callL pg 252 ([LI s, LI V] ++ [.ptr true gh.length 0, .ptr true (gh.length + 1) 0, .ptr true (gh.length + 2) 0]) (bdG gh m x) = some (.tup [], bdG gh m (x.1 && holdsB m V, badB m V)) := by
 have hk := jxt (gh := bdG gh m x) hm hV
 rw [ji9] at hk
 obtain ⟨a, b⟩ := x
 simp only [bdG] at *
 generalize holdsB m V = h at *
 generalize badB m V = d at *
 simp only [LI, LN, LP] at *
 generalize V.map I = vL at *
 generalize s.map I = sL at *
 generalize m.bads.map I = bL at *
 generalize m.holds.map I = hL at *
 generalize m.nodes.map nodeV = nL at *
 generalize m.inits.map andV = iL at *
 generalize m.nexts.map andV = xL at *
 have h1 := qfr_ (pg := pg) (gh := gh ++ [.cells [.sl false 6 nL, .sl false 2 iL, .sl false 2 xL, .sl false 1 bL, .sl false 1 hL], .cells [B a], .cells [B b]]) (v0 := .sl false 1 sL) (v1 := .sl false 1 vL) (g2 := gh.length) (o2 := 0) (g3 := gh.length + 1) (o3 := 0) (g4 := gh.length + 2) (o4 := 0) (e := .normal)
  (s := ⟨[], [], gh ++ [.cells [.sl false 6 nL, .sl false 2 iL, .sl false 2 xL, .sl false 1 bL, .sl false 1 hL], .cells [B (a && h)], .cells [B d]]⟩) (by
  cases a <;> simp [qfr, hk, spliceAt])
 simp only [List.cons_append, List.nil_append]
 rw [jkb (fn := q7x) rfl rfl h1]
 simp [finish, results, q7x, resOfs, resOk]
theorem Bad_eq {st : List Int} {ins : List (List Int)} (h1 : Sz m.inits.length) (h2 : Sz m.nexts.length) : callL pg 245 [modelV m, traceV st ins] gh = some (.tup [B (playB m st ins), I (traceE m st ins)], gh) := by
 have hc := jn4 (gh := gh ++ [.cells [LN m.nodes, LP m.inits, LP m.nexts, LI m.bads, LI m.holds]]) (st := st) (ins := ins) h1 h2
 unfold playB
 by_cases h0 : traceE m st ins = 0
 ·rw [if_pos h0]
  have ht := jl8 h0
  have hp := jr5 (m := m) (X := Bool × Bool) (G := bdG gh m) (step := fun x _ V => (x.1 && holdsB m V, badB m V)) (μ := fun _ => 0) (f := 252) (cs := [.ptr true gh.length 0, .ptr true (gh.length + 1) 0, .ptr true (gh.length + 2) 0]) (by simp) (fun x s V hV _ => jy0 ht.chk hV) (fun x s V => by simp) ht (x := (true, false)) rfl
  change callL pg 253 _ _ = some (_, bdG gh m (playM m (firstL m st) ins)) at hp
  rw [h0] at hc ⊢
  generalize playM m (firstL m st) ins = ab at *
  obtain ⟨a, b⟩ := ab
  rw [ji9] at *
  simp only [traceV, LsI, LI, LN, LP, bdG] at *
  generalize (ins.map fun l => PV.sl false 1 (l.map I)) = L at *
  generalize st.map I = sL at *
  generalize m.bads.map I = bL at *
  generalize m.holds.map I = hL at *
  generalize m.nodes.map nodeV = nL at *
  generalize m.inits.map andV = iL at *
  generalize m.nexts.map andV = xL at *
  refine ji3 (fn := q2r) (s := ⟨[(4, B (a && b)), (5, I 0)], [], gh ++ [.cells [.sl false 6 nL, .sl false 2 iL, .sl false 2 xL, .sl false 1 bL, .sl false 1 hL], .cells [B a], .cells [B b]]⟩) rfl rfl (q9n_ ?h1) ?r1
  case h1 =>
   have e2 : gh.length + 1 + 1 = gh.length + 2 := rfl
   cases a <;> simp [q9n, hc, hp, spliceAt, e2]
  case r1 => simp [finish, results, q2r, resOfs, resOf, resOk]
 ·rw [if_neg h0]
  generalize traceE m st ins = e at *
  rw [ji9] at *
  simp only [traceV, LsI, LI] at *
  generalize (ins.map fun l => PV.sl false 1 (l.map I)) = L at *
  generalize st.map I = sL at *
  refine ji3 (fn := q2r) (s := ?s2) rfl rfl (q9n_ ?h2) ?r2
  case h2 => simp [q9n, hc, h0]; rfl
  case r2 => simp [finish, results, q2r, resOfs, resOf, resOk]
theorem jr7 {st : List Int} {ins : List (List Int)} (hm : checkE m = 0) (hk : ∀ l ∈ ins, wordsE m.nodes (kindL m.nodes 2) l = 0) (hn : ins.length ≤ 1000) : ∀ (k i : Nat) (x : List (List Int)) (y : Bool × Bool) (s : List Int), i + k = ins.length → x.length + k ≤ 2000 → wordsE m.nodes (kindL m.nodes 3) s = 0 →
  runL pg q46 ⟨[(2, .ptr false 0 0), (3, .ptr false 1 0), (6, .sl true 1 (x.map fun l => LI l)), (7, LI s), (8, B y.1), (9, B y.2), (10, I i)], [[LN m.nodes, LP m.inits, LP m.nexts, LI m.bads, LI m.holds], [LI st, LsI ins]], gh⟩ =
   some (.normal, ⟨[(6, .sl true 1 ((playX m (fun (x : List (List Int)) s _ => x ++ [s]) x s (ins.drop i)).map fun l => LI l)), (8, B (playX m (fun (x : Bool × Bool) _ V => (x.1 && holdsB m V, badB m V)) y s (ins.drop i)).1), (9, B (playX m (fun (x : Bool × Bool) _ V => (x.1 && holdsB m V, badB m V)) y s (ins.drop i)).2)], [], gh⟩)
 | 0, i, x, y, s, hi, _, _ => by
  have hlt : decide ((i : Int) < (ins.length : Int)) = false := decide_eq_false (by omega)
  have hlI : (ins.map fun l => LI l).length = ins.length := List.length_map _
  rw [List.drop_eq_nil_of_le (by omega), playX, playX]
  rw [← hlI] at hlt
  obtain ⟨a, b⟩ := y
  simp only [LsI, LI] at *
  generalize (ins.map fun l => PV.sl false 1 (l.map I)) = L at *
  generalize (x.map fun l => PV.sl false 1 (l.map I)) = xL at *
  refine (ji7 (s1 := ?s1) (q9p_ ?h1)).trans ?r1
  case h1 => simp only [q9p, jk9, isC_sl, jka, stK_sl, hlt, jim]; rfl
  case r1 => simp [keep, stays]
 | k + 1, i, x, y, s, hi, hx0, hs => by
  have hlt : i < ins.length := by omega
  have hx : (ins.map fun l => LI l)[i]? = some (LI ins[i]) := by simp [hlt]
  have hwr : IntKind.i64.wrap ((i : Int) + 1) = ((i + 1 : Nat) : Int) := jip (by simp only [Sz]; omega)
  have hg : VGood m.nodes 0 [] s ins[i] := jl2 hs (hk _ (List.getElem_mem hlt))
  have hV : (valsOf m s ins[i]).length = m.nodes.length := jjw
  have e1 := jqc (gh := gh) hm hg
  have e2 := jxu (gh := gh) hm hV
  have e3 := jxs (gh := gh) hm hV
  have hnx := jn2 hm (jl7 hm hg) hV
  have ih := jr7 (st := st) hm hk hn k (i + 1) (x ++ [s]) (y.1 && holdsB m (valsOf m s ins[i]), badB m (valsOf m s ins[i])) (nextL m (valsOf m s ins[i])) (by omega) (by simp; omega) hnx
  have hmx : ((x.map fun l => LI l).length + 1) * 24 ≤ maxBytes := by
   have : maxBytes = 140737488355328 := rfl
   rw [List.length_map]; omega
  have hsn : ((x ++ [s]).map fun l => LI l) = (x.map fun l => LI l) ++ [LI s] := by simp
  rw [List.drop_eq_getElem_cons hlt, playX, playX]
  generalize (playX m (fun (x : List (List Int)) s _ => x ++ [s]) (x ++ [s]) (nextL m (valsOf m s ins[i])) (ins.drop (i + 1))) = R1 at *
  generalize (playX m (fun (x : Bool × Bool) _ V => (x.1 && holdsB m V, badB m V)) (y.1 && holdsB m (valsOf m s ins[i]), badB m (valsOf m s ins[i])) (nextL m (valsOf m s ins[i])) (ins.drop (i + 1))) = R2 at *
  rw [hsn] at ih
  obtain ⟨a, b⟩ := y
  simp only at ih ⊢
  generalize holdsB m (valsOf m s ins[i]) = hb at *
  generalize badB m (valsOf m s ins[i]) = bb at *
  generalize nextL m (valsOf m s ins[i]) = nx at *
  generalize valsOf m s ins[i] = V at *
  generalize ins[i] = l at *
  obtain ⟨u, hu⟩ : ∃ u : Int, ((i + 1 : Nat) : Int) = u := ⟨_, rfl⟩
  rw [hu] at hwr ih
  rw [ji9] at *
  simp only [LsI, LI] at *
  have hltI : decide ((i : Int) < (ins.length : Int)) = true := decide_eq_true (by omega)
  have hlI : ins.length = (ins.map fun l => PV.sl false 1 (l.map I)).length := (List.length_map _).symm
  rw [hlI] at hltI
  generalize (ins.map fun l => PV.sl false 1 (l.map I)) = L at *
  generalize (x.map fun l => PV.sl false 1 (l.map I)) = oL at *
  generalize l.map I = lL at *
  generalize V.map I = vL at *
  generalize s.map I = sL at *
  generalize nx.map I = nL' at *
  generalize m.bads.map I = bL at *
  generalize m.holds.map I = hL at *
  generalize m.nodes.map nodeV = nL at *
  generalize m.inits.map andV = iL at *
  generalize m.nexts.map andV = xL at *
  refine ji4 (q9p_ ?h3) ih
  case h3 =>
   have d2 : decide (i < L.length) = true := by simpa using hltI
   cases a <;> simp [q9p, d2, hx, hmx, e1, e2, e3, hwr]
theorem jy1 {st : List Int} {ins : List (List Int)} (ht : TrGood m st ins) : callL pg 377 [modelV m, traceV st ins] gh = some (.tup [LsI (playS m (firstL m st) ins), B ((playM m (firstL m st) ins).1 && (playM m (firstL m st) ins).2)], gh) := by
 have h1 := jxp (gh := gh) ht.chk (jmy ht.start)
 have h2 := jr7 (gh := gh) (st := st) ht.chk ht.inputs (by have := ht.len; omega) ins.length 0 [] (true, false) (firstL m st) (by omega) (by have := ht.len; simp; omega) (jn3 ht.chk ht.start)
 rw [List.drop_zero, Int.natCast_zero] at h2
 change runL pg q46 _ = some (_, ⟨[(_, .sl true 1 ((playS m (firstL m st) ins).map fun l => LI l)), (_, B (playM m (firstL m st) ins).1), (_, B (playM m (firstL m st) ins).2)], _, _⟩) at h2
 generalize playM m (firstL m st) ins = ab at *
 obtain ⟨a, b⟩ := ab
 generalize playS m (firstL m st) ins = P at *
 have hnb := jr6 P
 generalize firstL m st = F at *
 rw [ji9] at *
 simp only [traceV, LsI, LI, List.map_nil] at *
 generalize (ins.map fun l => PV.sl false 1 (l.map I)) = L at *
 generalize (P.map fun l => PV.sl false 1 (l.map I)) = pL at *
 generalize st.map I = sL at *
 generalize F.map I = fL at *
 have k1 : runL pg q47 ⟨[(6, .sl true 1 pL), (8, B a), (9, B b)], [], gh⟩ = some (.ret, ⟨[(4, .sl false 1 pL), (5, B (a && b))], [], gh⟩) := by
  refine qfs_ ?_
  cases a <;> simp [qfs]
 refine ji3 (fn := q7v) (s := ?s1) rfl rfl (qft_ ?h1) ?r1
 case h1 => simp [qft, h1, h2, k1]; rfl
 case r1 => simp [finish, results, q7v, resOfs, resOf, resOk, hnb]
end
end Go.Lw
end

/-! What a trace is that a law is handed. -/
section
namespace Go.Lw
open Go Go.RowKit
theorem csOk_slice' {g : Bool} {bytes : Nat} {l : List CS} {p : PV} (h : csOk (.slice g bytes l) p) : ∃ xs, p = .sl false l.length xs ∧ xs.length * bytes ≤ reachBytes ∧ ∀ e ∈ xs, (g = true ∧ ∃ ps, e = .agg ps ∧ csAll l ps) ∨ (g = false ∧ csAll l [e]) := by
 unfold csOk at h; exact h
theorem int_list' : ∀ {xs : List PV}, (∀ e ∈ xs, (false = true ∧ ∃ ps, e = .agg ps ∧ csAll [.int] ps) ∨ (false = false ∧ csAll [.int] [e])) → ∃ v : List Int, I64s v ∧ xs = v.map I
 | [], _ => ⟨[], fun x h => (by cases h), rfl⟩
 | e :: xs, h => by
  obtain ⟨v, hr, rfl⟩ := int_list' (xs := xs) fun e he => h e (List.mem_cons_of_mem _ he)
  rcases h e (by simp) with ⟨h, -⟩ | ⟨-, hp⟩
  ·cases h
  ·obtain ⟨_, _, e1, g0, hp⟩ := jiq hp
   cases jjp hp
   simp only [List.cons.injEq, and_true] at e1
   subst e1
   obtain ⟨b, rfl, hb⟩ := jj0 g0
   refine ⟨b :: v, fun x hx => ?_, rfl⟩
   rcases List.mem_cons.1 hx with rfl | hx
   ·exact hb
   ·exact hr x hx
theorem list_list' {xs : List PV} (h : ∀ e ∈ xs, (false = true ∧ ∃ ps, e = .agg ps ∧ csAll [.slice false 8 [.int]] ps) ∨ (false = false ∧ csAll [.slice false 8 [.int]] [e])) : ∃ cls : List (List Int), xs = (cls.map fun l => LI l) ∧ ∀ l ∈ cls, I64s l := by
 induction xs with
 | nil => exact ⟨[], rfl, fun l h => by cases h⟩
 | cons x xs ih =>
  obtain ⟨cls, rfl, hs⟩ := ih fun e he => h e (List.mem_cons_of_mem _ he)
  rcases h x (List.mem_cons_self ..) with ⟨h1, _⟩ | ⟨_, h1⟩
  ·cases h1
  ·obtain ⟨_, _, e, g0, hp⟩ := jiq h1
   injection e with e1 e2
   subst e1; subst e2
   obtain ⟨ys, rfl, hb, hy⟩ := csOk_slice' g0
   obtain ⟨v, hv, rfl⟩ := int_list' hy
   refine ⟨v :: cls, rfl, fun l hl => ?_⟩
   rcases List.mem_cons.1 hl with rfl | hl
   ·exact hv
   ·exact hs l hl
abbrev traceC : List CS := [.slice false 8 [.int], .slice false 24 [.slice false 8 [.int]]]
theorem jy7 {p : PV} (h : argTy (true, traceC) p) : ∃ st ins, p = traceV st ins ∧ I64s st ∧ ∀ l ∈ ins, I64s l := by
 obtain ⟨ps, rfl, hp⟩ := jol h
 obtain ⟨_, _, rfl, g0, hp⟩ := jiq hp
 obtain ⟨_, _, rfl, g1, hp⟩ := jiq hp
 obtain rfl := jjp hp
 obtain ⟨xs, rfl, hb, hx⟩ := csOk_slice' g0
 obtain ⟨st, hs, rfl⟩ := int_list' hx
 obtain ⟨ys, rfl, hb, hy⟩ := csOk_slice' g1
 obtain ⟨ins, rfl, hi⟩ := list_list' hy
 exact ⟨st, ins, rfl, hs, hi⟩
end Go.Lw
end

/-! TracePlays: the law answers true. -/
section
namespace Go.Lw
open Go
theorem jy8 {m : Md} (hm : MdOk m) : Sz m.inits.length ∧ Sz m.nexts.length := by
 have h1 := hm.inits
 have h2 := hm.nexts
 have : reachBytes = 140737488351232 := rfl
 simp only [Sz]
 omega
theorem jrc {m : Md} (hm : checkE m = 0) : ∀ (ks : List (List Int)) (x : List (List Int)) (s : List Int), (∀ l ∈ ks, wordsE m.nodes (kindL m.nodes 2) l = 0) → wordsE m.nodes (kindL m.nodes 3) s = 0 → (∀ l ∈ x, l.length ≤ 1000) →
  (∀ l ∈ playX m (fun (x : List (List Int)) s _ => x ++ [s]) x s ks, l.length ≤ 1000) ∧ (playX m (fun (x : List (List Int)) s _ => x ++ [s]) x s ks).length = x.length + ks.length
 | [], x, s, _, _, hx => ⟨hx, rfl⟩
 | k :: ks, x, s, hk, hs, hx => by
  have hg : VGood m.nodes 0 [] s k := jl2 hs (hk _ (by simp))
  have hl : s.length ≤ 1000 := by rw [jmy hs]; exact jr3 hm 3
  obtain ⟨h1, h2⟩ := jrc hm ks (x ++ [s]) (nextL m (valsOf m s k)) (fun l hl => hk l (by simp [hl])) (jn2 hm (jl7 hm hg) jjw) (fun l h => by
   rcases List.mem_append.1 h with h | h
   ·exact hx l h
   ·rw [List.mem_singleton.1 h]; exact hl)
  rw [playX]
  refine ⟨h1, ?_⟩
  rw [h2]; simp; omega
abbrev insTracePlays : List (Bool × List CS) := [(true, modelC), (true, traceC)]
theorem jy9 {m : Md} {st : List Int} {ins : List (List Int)} (hm : MdOk m) : callL pg 374 [modelV m, traceV st ins] [] = some (B true, []) := by
 obtain ⟨h1, h2⟩ := jy8 hm
 have e1 := jxz (gh := []) (st := st) (ins := ins) h1 h2
 have e2 := Bad_eq (gh := []) (st := st) (ins := ins) h1 h2
 have e3 := jxx (gh := []) (st := st) (ins := ins) h1 h2
 have e4 := jn4 (gh := []) (st := st) (ins := ins) h1 h2
 have hb := jy6
 have hsame : callL pg 95 [LsI (playL m st ins), LsI (playL m st ins)] [] = some (B true, []) := by
  have key : (∀ l ∈ playL m st ins, l.length ≤ 1000) ∧ (playL m st ins).length ≤ 1000 := by
   unfold playL
   by_cases h0 : traceE m st ins = 0
   ·rw [if_pos h0]
    have ht := jl8 h0
    obtain ⟨k1, k2⟩ := jrc ht.chk ins [] (firstL m st) ht.inputs (jn3 ht.chk ht.start) (fun l h => by cases h)
    refine ⟨k1, ?_⟩
    have := ht.len
    rw [playS, k2]; simp; omega
   ·rw [if_neg h0]; exact ⟨fun l h => (by cases h), by simp⟩
  exact jwp (fun l hl => by have := key.1 l hl; simp only [Sz]; omega) (by have := key.2; simp only [Sz]; omega)
 have k1 : ∀ (w : Int) (L : List PV) (b : Bool), traceE m st ins = w → playL m st ins = playL m st ins → playB m st ins = b → ((playL m st ins).map fun l => LI l) = L →
   runL pg q1i ⟨[(2, .ptr false 0 0), (3, .ptr false 1 0), (5, .sl false 1 L), (6, I w), (7, B b), (8, I w), (9, I w), (10, .sl false 1 L), (11, B b)], [[LN m.nodes, LP m.inits, LP m.nexts, LI m.bads, LI m.holds], [LI st, LsI ins]], []⟩ = some (.ret, ⟨[(4, B true)], [], []⟩) := by
  intro w L b hw _ _ hL
  rw [hw] at e4
  simp only [LsI] at hsame e4 ⊢
  rw [hL] at hsame
  rw [ji9] at e4
  simp only [traceV, LsI, LI, LN, LP] at *
  generalize (ins.map fun l => PV.sl false 1 (l.map I)) = iL at *
  refine q9q_ ?_
  simp [q9q, hb, e4, hsame]
 have k1' : ∀ (w : Int), traceE m st ins = w → w ≠ 0 →
   runL pg q1i ⟨[(2, .ptr false 0 0), (3, .ptr false 1 0), (5, .sl false 1 []), (6, I w), (7, B false), (8, I w), (9, I w), (10, .sl true 1 []), (11, B false)], [[LN m.nodes, LP m.inits, LP m.nexts, LI m.bads, LI m.holds], [LI st, LsI ins]], []⟩ = some (.ret, ⟨[(4, B true)], [], []⟩) := by
  intro w hw h0
  have hL : playL m st ins = [] := by unfold playL; rw [if_neg (by omega)]
  rw [hL] at hsame
  rw [hw] at e4
  rw [ji9] at e4
  simp only [traceV, LsI, LI, LN, LP, List.map_nil] at *
  generalize (ins.map fun l => PV.sl false 1 (l.map I)) = iL at *
  refine q9q_ ?_
  simp [q9q, hb, e4, hsame]
 by_cases h0 : traceE m st ins = 0
 ·have ht := jl8 h0
  have e5 := jy1 (gh := []) ht
  have k := k1 0 _ _ h0 rfl rfl rfl
  have eL : playL m st ins = playS m (firstL m st) ins := by unfold playL; rw [if_pos h0]
  have eB : playB m st ins = ((playM m (firstL m st) ins).1 && (playM m (firstL m st) ins).2) := by unfold playB; rw [if_pos h0]
  rw [← eL, ← eB] at e5
  rw [h0] at e1 e2 e3
  clear k1 k1' hsame e4
  generalize playB m st ins = b at *
  rw [ji9] at *
  simp only [traceV, LsI, LI, LN, LP] at *
  generalize ((playL m st ins).map fun l => PV.sl false 1 (l.map I)) = pL at *
  generalize (ins.map fun l => PV.sl false 1 (l.map I)) = iL at *
  refine ji3 (fn := q1x) (s := ⟨[(4, B true)], [], []⟩) rfl rfl (q9r_ ?h1) ?r1
  case h1 => simp [q9r, e1, e2, e3, e5, k]
  case r1 => simp [finish, results, q1x, resOfs, resOf, resOk]
 ·have k := k1' _ rfl h0
  have eL : playL m st ins = [] := by unfold playL; rw [if_neg h0]
  have eB : playB m st ins = false := by unfold playB; rw [if_neg h0]
  rw [eL] at e1
  rw [eB] at e2
  clear k1 k1' hsame e4
  generalize traceE m st ins = e at *
  rw [ji9] at *
  simp only [traceV, LsI, LI, LN, LP, List.map_nil] at *
  generalize (ins.map fun l => PV.sl false 1 (l.map I)) = iL at *
  refine ji3 (fn := q1x) (s := ⟨[(4, B true)], [], []⟩) rfl rfl (q9r_ ?h2) ?r2
  case h2 => simp [q9r, e1, e2, e3, h0, k]
  case r2 => simp [finish, results, q1x, resOfs, resOf, resOk]
theorem jya (qs : List PV) (h : argsTy insTracePlays qs) (_hn : bulkPs qs ≤ 1048576) : callL pg 374 qs [] = some (B true, []) := by
 obtain ⟨_, _, rfl, h0, h⟩ := jok h
 obtain ⟨_, _, rfl, h1, h⟩ := jok h
 obtain rfl := jul h
 obtain ⟨m, rfl, hm⟩ := jwq h0
 obtain ⟨st, ins, rfl, -, -⟩ := jy7 h1
 exact jy9 hm
end Go.Lw
end
