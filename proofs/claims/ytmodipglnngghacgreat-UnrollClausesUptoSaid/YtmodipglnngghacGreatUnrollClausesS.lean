/-
  The texts that the proof stands on, part 19.
-/
import Derived.Test.YtmodipglnngghacGreatUnrollClausesR
import Derived.Sort.Grow
import Derived.KernelRfl
set_option linter.unusedVariables false
set_option linter.unusedSimpArgs false
set_option linter.unnecessarySimpa false

/-! A stack of numbers, handed over as a row of cells. -/
section
namespace Go.Lw
open Go Go.Sort
section
variable {fi : FI} {M M' : Mem} {w w' W : World} {P : Program}
theorem j141 {b k : Nat} (h : W.heap[b]? = w.heap[b]?) : W.cell? ⟨b, k, none⟩ = w.cell? ⟨b, k, none⟩ := by
 simp [World.cell?, h]
theorem GI.restk {gh : List GObj} (hG : GI fi M w gh) {b gen : Nat} {xs zs : List PV} (hgh : gh[b]? = some (.stk gen xs)) {cs2 : Array Value} {T : TypeId} (hos : W.os = w.os) (htp : W.tape = w.tape) (hout : W.output = w.output)
  (hsz : w.heap.size ≤ W.heap.size) (hoth : ∀ k, k < w.heap.size → k ≠ (M.st b).2.1 → W.heap[k]? = w.heap[k]?) (hblk : W.heap[(M.st b).2.1]? = some (.cells cs2 T (0, 0))) (hcs : cs2.size = (M.st b).2.2) (hlen : zs.length ≤ cs2.size)
  (hf : ∀ x ∈ zs, isFlat x = true) (hr : ∀ (j : Nat) (x : PV), zs[j]? = some x → ∃ u, cs2[j]? = some u ∧ RepP fi M W x u) : GI fi M W (gh.set b (.stk gen zs)) ∧ Kp M w M W := by
 have hbl : b < gh.length := (List.getElem?_eq_some_iff.1 hgh).1
 have hbg : b < M.gb.length := by rw [hG.gbl]; exact hbl
 obtain ⟨o1, o2, o3, o4, o5, cs0, T0, o6, o7, o8, o9⟩ : RepStk fi M w b M.gb[b] gen xs := hG.gh b _ _ hgh (List.getElem?_eq_getElem hbg)
 have g : Good M w M W (fun l => l = Loc.gh b 0) (fun _ => False) := by
  refine ⟨⟨fun _ _ h => h, fun _ _ h => h, fun bb k h => ?_, fun _ _ => ⟨Nat.le_refl _, fun _ => rfl⟩⟩, hsz, fun _ _ h => h, fun bb l h hl => ?_, fun bb hb _ h => ?_, fun _ _ => rfl⟩
  ·exact j141 (hoth bb (hG.immlt bb k h) (fun e => o4 k (by rw [← e]; exact h)))
  ·exact ⟨h, hoth bb (hG.ownlt bb l h) (fun e => hl (by rw [e, o3] at h; cases h; rfl)), fun _ h => h, id, id⟩
  ·exact ⟨hoth bb hb (fun e => by rw [e, o3] at h; cases h), fun _ h => h, h⟩
 have k : Kp M w M W := ⟨hos, htp, hout, hsz, g.ext, fun i hi _ _ ho => hoth i hi (fun e => by rw [e, o3] at ho; cases ho), fun _ h => .inl h, fun _ h => .inl h, fun _ _ h => h, fun _ _ h => .inl h⟩
 refine ⟨⟨fun t v h => by simp [get] at h, rfl, hG.lbl, by simpa using hG.gbl, hG.nodup, fun i cs blk h => by simp at h, fun i o blk h1 h2 => ?_, g.ext.gl hG.gl, fun bb j h => Nat.lt_of_lt_of_le (hG.immlt bb j h) hsz, fun bb l h => Nat.lt_of_lt_of_le (hG.ownlt bb l h) hsz, fun bb h => Nat.lt_of_lt_of_le (hG.gblt bb h) hsz⟩, k⟩
 simp only at h1
 rw [List.getElem?_set] at h1
 by_cases hbi : b = i
 ·subst hbi
  rw [if_pos rfl, if_pos hbl] at h1
  cases h1
  have eb : M.gb[b] = blk := by rw [List.getElem?_eq_getElem hbg] at h2; exact Option.some.inj h2
  exact ⟨by rw [← eb]; exact o1, o2, o3, o4, hf, cs2, T, hblk, hcs, hlen, hr⟩
 ·rw [if_neg hbi] at h1
  exact (hG.gh i o blk h1 h2).good g id (fun j h => by injection h with h1 h2; exact hbi h1.symm)
theorem jxg {w : World} {n blk : Nat} {d : Array Int} {os : Array Obj} (k : Nat) (hk : k < w.heap.size) : (grow (putRow (Value.int .i64) (Sort.ahead w n) blk 0 d) os).heap[k]? = if k = blk then w.heap[k]?.map (onCells (putCells (Value.int .i64) 0 d)) else w.heap[k]? := by
 have e : (grow (putRow (Value.int .i64) (Sort.ahead w n) blk 0 d) os).heap = w.heap.modify blk (onCells (putCells (Value.int .i64) 0 d)) ++ os := rfl
 rw [e, Array.getElem?_append_left (by simpa using hk), Array.getElem?_modify]
 by_cases h : k = blk
 ·subst h; simp
 ·simp [h, Ne.symm h]
theorem j142 {d : Array Int} {cs : Array Value} (j : Nat) (hj : j < cs.size) : (putCells (Value.int .i64) 0 d cs)[j]? = if h : j < d.size then some (.int .i64 d[j]) else cs[j]? := by
 unfold putCells
 rw [Array.getElem?_mapIdx, Array.getElem?_eq_getElem hj]
 by_cases h : j < d.size <;> simp [h]
theorem jxh {gh : List GObj} (hG : GI fi M w gh) {b gen : Nat} {xs : List PV} {zs : List Int} (hgh : gh[b]? = some (.stk gen xs)) (hu : unInts xs = some zs) {v : Value} (hv : RepP fi M w (.stk b gen xs.length) v) :
  ∃ c, v = .slice (some ⟨(M.st b).2.1, 0, none⟩) zs.length c ∧ zs.length ≤ c ∧ c ≤ (M.st b).2.2 ∧ Holds (Value.int .i64) w (M.st b).2.1 0 zs.toArray ∧ (M.st b).2.1 < w.heap.size ∧
   ∀ (W : World) (n : Nat) (os : Array Obj) (d ys : List Int), d.length = zs.length → ys <+: d → W = grow (putRow (Value.int .i64) (Sort.ahead w n) (M.st b).2.1 0 d.toArray) os →
    GI fi M W (gh.set b (.stk gen (ys.map (PV.int .i64)))) ∧ Kp M w M W := by
 have hbl : b < gh.length := (List.getElem?_eq_some_iff.1 hgh).1
 have hbg : b < M.gb.length := by rw [hG.gbl]; exact hbl
 obtain ⟨o1, o2, o3, o4, o5, cs, T, o6, o7, o8, o9⟩ : RepStk fi M w b M.gb[b] gen xs := hG.gh b _ _ hgh (List.getElem?_eq_getElem hbg)
 have hx := js8 hu
 have hxl : xs.length = zs.length := by rw [hx]; simp
 have hlt : (M.st b).2.1 < w.heap.size := (Array.getElem?_eq_some_iff.1 o6).1
 cases hv with
 | stk _ _ _ blk c hb hg hA hc =>
 obtain ⟨rfl, hcc⟩ := hA o2.symm
 refine ⟨c, by rw [hxl], by omega, hcc, fun j hj => ?_, hlt, fun W n os d ys hd hys hW => ?_⟩
 ·have hj' : j < zs.length := by simpa using hj
  obtain ⟨u, hu1, hu2⟩ := o9 j (.int .i64 zs[j]) (by rw [hx]; simp [hj'])
  cases hu2
  refine ⟨?_, ?_⟩
  ·rw [Nat.zero_add]
   simp [World.cell?, o6, hu1, hj']
  ·simp [World.frozen?, o6]
 ·subst hW
  obtain ⟨rest, rfl⟩ := hys
  have hh := jxg (n := n) (d := (ys ++ rest).toArray) (os := os) (blk := (M.st b).2.1) _ hlt
  rw [if_pos rfl, o6] at hh
  have hlen : (ys ++ rest).length ≤ cs.size := by omega
  refine hG.restk hgh (cs2 := putCells (Value.int .i64) 0 (ys ++ rest).toArray cs) (T := T) rfl rfl rfl ?_ (fun k hk hne => by rw [jxg k hk, if_neg hne]) hh (by simpa [putCells] using o7) ?_ ?_ ?_
  ·show _ ≤ (w.heap.modify _ _ ++ os).size
   simp
  ·simp only [List.length_append] at hlen
   simp [putCells]; omega
  ·intro x hx
   obtain ⟨z, _, rfl⟩ := List.mem_map.1 hx
   rfl
  ·intro j x hj
   rw [List.getElem?_map, Option.map_eq_some_iff] at hj
   obtain ⟨z, hz, rfl⟩ := hj
   have hjl := (List.getElem?_eq_some_iff.1 hz).1
   simp only [List.length_append] at hlen
   refine ⟨.int .i64 z, ?_, .int _ _⟩
   rw [j142 j (by omega), dif_pos (by simp; omega)]
   simp only [List.getElem_toArray]
   rw [List.getElem_append_left hjl]
   rw [List.getElem?_eq_getElem hjl] at hz
   rw [Option.some.inj hz]
end
end Go.Lw
end

/-! The law GatesAnds, of the machine: it answers true. -/
section
namespace Go.Lw
open Go
section
variable {ins : Int} {ands : List (Int × Int)} {gh : List GObj}
end
theorem jwf {g : Bool} {bytes : Nat} {l : List CS} {p : PV} (h : csOk (.slice g bytes l) p) : ∃ xs, p = .sl false l.length xs ∧ xs.length * bytes ≤ reachBytes ∧ ∀ e ∈ xs, (g = true ∧ ∃ ps, e = .agg ps ∧ csAll l ps) ∨ (g = false ∧ csAll l [e]) := by
 unfold csOk at h; exact h
theorem jwg : ∀ {xs : List PV}, (∀ e ∈ xs, (true = true ∧ ∃ ps, e = .agg ps ∧ csAll [.int, .int] ps) ∨ (true = false ∧ csAll [.int, .int] [e])) → ∃ ands, RA ands ∧ xs = ands.map andV
 | [], _ => ⟨[], fun x h => (by cases h), rfl⟩
 | e :: xs, h => by
  obtain ⟨ands, hr, rfl⟩ := jwg (xs := xs) fun e he => h e (List.mem_cons_of_mem _ he)
  rcases h e (by simp) with ⟨-, ps, rfl, hp⟩ | ⟨h, -⟩
  ·obtain ⟨_, _, rfl, g0, hp⟩ := jpz hp
   obtain ⟨_, _, rfl, g1, hp⟩ := jpz hp
   obtain rfl := js7 hp
   obtain ⟨a, rfl, ha⟩ := jqn g0
   obtain ⟨b, rfl, hb⟩ := jqn g1
   refine ⟨(a, b) :: ands, fun x hx => ?_, rfl⟩
   rcases List.mem_cons.1 hx with rfl | hx
   ·exact ⟨ha, hb⟩
   ·exact hr x hx
  ·cases h
end Go.Lw
end

/-! The law GatesEvals, of the machine: it answers true. -/
section
namespace Go.Lw
open Go
section
variable {ins : Int} {ands : List (Int × Int)} {gh : List GObj}
theorem jwh (hi : 0 ≤ ins ∧ ins ≤ 1000) (hl : ands.length ≤ 1000000) {lits : List Int} (hs : Sz lits.length) : ∀ k i, i + k = lits.length →
  runL pg q49 ⟨[(1, LI lits), (2, .ptr false 0 0), (5, I (i : Int))], [[I ins, .sl false 2 (ands.map andV)]], gh⟩ =
   if (lits.drop i).all (isLit ins ands) = true then some (.normal, ⟨[], [], gh⟩) else some (.ret, ⟨[(4, B false)], [], gh⟩)
 | 0, i, h => by
  rw [List.drop_eq_nil_of_le (by omega), List.all_nil, if_pos rfl]
  have hlt : ¬ i < lits.length := by omega
  refine (jpp (s1 := ?s1) (q2z_ ?h1)).trans ?r1
  case h1 => simp [q2z, hlt]; rfl
  case r1 => simp [keep]
 | k + 1, i, h => by
  have hlt : i < lits.length := by omega
  have e3 : IntKind.i64.wrap ((i : Int) + 1) = ((i + 1 : Nat) : Int) := jq0 (by simp only [Sz] at hs ⊢; omega)
  have hL := jwc (gh := gh) hi hl lits[i]
  unfold graphV at hL
  have hg : (lits.map I)[i]? = some (I lits[i]) := by simp [List.getElem?_eq_getElem hlt]
  rw [List.drop_eq_getElem_cons hlt, List.all_cons]
  cases hx : isLit ins ands lits[i] with
  | true =>
   rw [hx] at hL
   refine jpj (s1 := ⟨[(1, LI lits), (2, .ptr false 0 0), (5, I ((i + 1 : Nat) : Int))], [[I ins, .sl false 2 (ands.map andV)]], gh⟩) (q2z_ ?h2) ?r2
   case h2 => simp [q2z, hlt, hL, e3]
   case r2 =>
    rw [Bool.true_and]
    exact jwh hi hl hs k (i + 1) (by omega)
  | false =>
   rw [hx] at hL
   rw [Bool.false_and, if_neg (by simp)]
   refine lp_ret (q2z_ ?h3)
   case h3 => simp [q2z, hlt, hL]
theorem j12n (hi : 0 ≤ ins ∧ ins ≤ 1000) (hl : ands.length ≤ 1000000) {lits : List Int} (hs : Sz lits.length) : callL pg 10 [graphV ins ands, LI lits] gh = some (B (lits.all (isLit ins ands)), gh) := by
 have h := jwh (gh := gh) hi hl hs lits.length 0 (by omega)
 rw [List.drop_zero] at h
 simp only [Int.natCast_zero] at h
 cases hx : lits.all (isLit ins ands) with
 | true =>
  rw [if_pos hx] at h
  have hk := qom_ (pg := pg) (gh := gh) (e := .ret) (s := ⟨[(4, B true)], [], gh⟩) rfl
  refine jpc (fn := q1b) (s := ?s1) rfl rfl (q6f_ ?h1) ?r1
  case h1 => simp [q6f, h, hk]; rfl
  case r1 => simp [finish, results, q1b, resOfs, resOf, resOk]
 | false =>
  rw [if_neg (by rw [hx]; simp)] at h
  refine jpc (fn := q1b) (s := ?s2) rfl rfl (q6f_ ?h2) ?r2
  case h2 => simp [q6f, h]; rfl
  case r2 => simp [finish, results, q1b, resOfs, resOf, resOk]
end
def RI (l : List Int) : Prop := ∀ x ∈ l, -9223372036854775808 ≤ x ∧ x ≤ 9223372036854775807
theorem jwi : ∀ {xs : List PV}, (∀ e ∈ xs, (false = true ∧ ∃ ps, e = .agg ps ∧ csAll [.int] ps) ∨ (false = false ∧ csAll [.int] [e])) → ∃ v : List Int, RI v ∧ xs = v.map I
 | [], _ => ⟨[], fun x h => (by cases h), rfl⟩
 | e :: xs, h => by
  obtain ⟨v, hr, rfl⟩ := jwi (xs := xs) fun e he => h e (List.mem_cons_of_mem _ he)
  rcases h e (by simp) with ⟨h, -⟩ | ⟨-, hp⟩
  ·cases h
  ·obtain ⟨_, _, e1, g0, hp⟩ := jpz hp
   cases js7 hp
   simp only [List.cons.injEq, and_true] at e1
   subst e1
   obtain ⟨b, rfl, hb⟩ := jqn g0
   refine ⟨b :: v, fun x hx => ?_, rfl⟩
   rcases List.mem_cons.1 hx with rfl | hx
   ·exact hb
   ·exact hr x hx
theorem jtq {c : CS} {p : PV} (h : argTy (false, [c]) p) : csOk c p := by
 obtain ⟨q, ps, e, h1, h2⟩ := jpz h
 cases js7 h2
 simp only [List.cons.injEq, and_true] at e
 subst e; exact h1
theorem jse {p : PV} (h : argTy (false, [.slice false 8 [.int]]) p) : ∃ v : List Int, p = LI v ∧ RI v ∧ v.length * 8 ≤ reachBytes := by
 obtain ⟨xs, rfl, hb, hx⟩ := jwf (jtq h)
 obtain ⟨v, hr, rfl⟩ := jwi hx
 refine ⟨v, rfl, hr, ?_⟩
 simpa using hb
end Go.Lw
end

/-! Circuits: what Check comes to (the program's and the document's), and the law. -/
section
namespace Go.Lw
open Go
structure Ci where
 ins : Int
 ands : List (Int × Int)
 inp : Int
 st : Int
 inits : List Int
 nexts : List Int
 bads : List Int
 holds : List Int
abbrev ciV (c : Ci) : PV := .agg [I c.ins, .sl false 2 (c.ands.map andV), I c.inp, I c.st, LI c.inits, LI c.nexts, LI c.bads, LI c.holds]
def ciE (c : Ci) : Int :=
 if chkE c.ins c.ands = 0 then
  if c.inp < 0 then 4 else if c.st < 0 then 4 else if IntKind.i64.wrap (c.inp + c.st) = c.ins then
   if (c.inits.length : Int) = c.st then if (c.nexts.length : Int) = c.st then
    if ((noNeg c.inits).all (isLit c.ins c.ands) && (c.nexts.all (isLit c.ins c.ands) && (c.bads.all (isLit c.ins c.ands) && c.holds.all (isLit c.ins c.ands)))) = true then 0 else 5
   else 1 else 1
  else 4
 else chkE c.ins c.ands
section
variable {gh : List GObj}
theorem j12s {A : List Int} (h : A.length * 8 ≤ maxBytes) : ∃ r6 gh7 w6 r8 gh9, callL pg 121 [LI A] gh = some (r6, gh7) ∧ degr r6 = w6 ∧ (∀ {R : Type} (x : Option R), isC r6 x = x) ∧ (∀ {R : Type} (x : Option R), arK w6 x = x) ∧
  callL pg 343 [w6, .fn 215 []] gh7 = some (r8, gh9) ∧ Els gh9 r8 (noNeg A) ∧ gh9.take gh.length = gh := by
 have hm : maxBytes = 140737488355328 := rfl
 by_cases hA : A = []
 ·subst hA
  refine ⟨.sl true 1 [], gh, .sl false 1 [], .sl false 1 [], gh, ?_, rfl, fun _ => rfl, fun _ => rfl, df_nil, .inl rfl, by simp⟩
  have : callL pg 121 [.sl false 1 []] gh = libCloneK 8 [.sl false 1 []] gh := rfl
  rw [show LI [] = .sl false 1 [] from rfl, this, libCloneK, if_pos rfl, libClone, if_pos ⟨rfl, by simp⟩]
 ·have hfl : (A.map I).all isFlat = true := by
   rw [List.all_eq_true]; intro v hv; obtain ⟨n, -, rfl⟩ := List.mem_map.1 hv; rfl
  obtain ⟨i, zs, e1, e2, e3, e4⟩ := df_eq (gh := gh ++ [.stk 1 (A.map I)]) (xs := A) (b := gh.length) (g := 1) (by simp) (by simp) (by simp only [Sz]; omega)
  refine ⟨.stk gh.length 1 A.length, gh ++ [.stk 1 (A.map I)], .stk gh.length 1 A.length, _, _, ?_, rfl, fun _ => rfl, fun _ => rfl, e1, ?_, ?_⟩
  ·have : callL pg 121 [.sl false 1 (A.map I)] gh = libCloneK 8 [.sl false 1 (A.map I)] gh := rfl
   rw [this, libCloneK, if_neg (by simpa using hA), if_pos ⟨rfl, by simpa using h, hfl⟩, List.length_map]
  ·exact .inr ⟨_, _, _, zs, rfl, by simp, by omega, e4⟩
  ·rw [List.take_set_of_le (Nat.le_refl _)]; simp
theorem j12t (c : Ci) (hr : RA c.ands) (hs : (c.inits.length + c.nexts.length + c.bads.length + c.holds.length) * 8 ≤ maxBytes) : callL pg 212 [ciV c] gh = some (I (ciE c), gh) := by
 have hm : maxBytes = 140737488355328 := rfl
 obtain ⟨ins, ands, inp, st, A, B', C, D⟩ := c
 simp only at hr hs
 have hC := j12f (ins := ins) (gh := gh) hr
 have fin : ∀ (e : Int) (s : St) (gh' : List GObj), s = ⟨[(2, I e)], [], gh'⟩ → gh'.take gh.length = gh → runL pg q3f ⟨[(0, .agg [I ins, .sl false 2 (ands.map andV), I inp, I st, LI A, LI B', LI C, LI D])], [], gh⟩ = some (.ret, s) → callL pg 212 [.agg [I ins, .sl false 2 (ands.map andV), I inp, I st, LI A, LI B', LI C, LI D]] gh = some (I e, gh) := by
  intro e s gh' hs' ht hrun
  subst hs'
  refine jpc (fn := q3g) rfl rfl hrun ?_
  simp [finish, results, q3g, resOfs, resOf, resOk, get, ht]
 unfold ciE
 simp only [ciV]
 by_cases he : chkE ins ands = 0
 ·rw [if_pos he]
  rw [he] at hC
  have hz := jto he
  have hI := fun {lits : List Int} {gh : List GObj} (hs : Sz lits.length) => Is_eq (gh := gh) (lits := lits) hz.1 hz.2.1 hs
  simp only [graphV] at hC hI
  generalize isLit ins ands = p at *
  generalize ands.map andV = G at *
  by_cases h1 : inp < 0
  ·rw [if_pos h1]
   refine fin 4 _ gh rfl (by simp) (qe_ ?h1)
   case h1 => simp [qe, hC, h1]
  rw [if_neg h1]
  by_cases h2 : st < 0
  ·rw [if_pos h2]
   refine fin 4 _ gh rfl (by simp) (qe_ ?h2)
   case h2 => simp [qe, hC, h1, h2]
  rw [if_neg h2]
  by_cases h3 : IntKind.i64.wrap (inp + st) = ins
  ·rw [if_pos h3]
   by_cases h4 : (A.length : Int) = st
   ·rw [if_pos h4]
    by_cases h5 : (B'.length : Int) = st
    ·rw [if_pos h5]
     have e3 : (IntKind.i64.wrap (inp + st) != ins) = false := by simp [h3]
     have e4 : ((A.length : Int) != st) = false := by simp [h4]
     have e5 : ((B'.length : Int) != st) = false := by simp [h5]
     obtain ⟨r6, gh7, w6, r8, gh9, q1, q2, q3, q4, q5, q6, q7⟩ := j12s (gh := gh) (A := A) (by omega)
     have hcc := cc_eq (gh := gh9) (l := [(r8, noNeg A), (LI B', B'), (LI C, C), (LI D, D)]) (by
      intro x hx
      simp only [List.mem_cons, List.not_mem_nil, or_false] at hx
      rcases hx with rfl | rfl | rfl | rfl
      ·exact q6
      ·exact .inl rfl
      ·exact .inl rfl
      ·exact .inl rfl) (by
       have : (noNeg A).length ≤ A.length := List.length_filter_le _ _
       simp only [sumL, List.map_cons, List.map_nil, List.sum_cons, List.sum_nil]
       omega) (by simp only [Sz, List.length_cons, List.length_nil]; omega)
     have hlen : Sz (noNeg A ++ (B' ++ (C ++ D))).length := by
      have : (noNeg A).length ≤ A.length := List.length_filter_le _ _
      simp only [List.length_append, Sz]; omega
     have his := hI (gh := gh9) hlen
     simp only [cV, List.map_cons, List.map_nil, List.flatMap_cons, List.flatMap_nil, List.append_nil] at hcc
     rw [show (noNeg A ++ (B' ++ (C ++ D))).all p = ((noNeg A).all p && (B'.all p && (C.all p && D.all p))) by simp only [List.all_append]] at his
     generalize ((noNeg A).all p && (B'.all p && (C.all p && D.all p))) = ok at *
     simp only [LI] at *
     generalize (noNeg A ++ (B' ++ (C ++ D))).map I = W at *
     cases ok with
     | true =>
      rw [if_pos rfl]
      refine fin 0 _ gh9 rfl q7 (qe_ ?h3)
      case h3 => simp [qe, hC, h1, h2, h3, h4, h5, q1, q2, q3, q4, q5, q6.isC, q6.st, q6.dg, q6.ar, q6.ln, hcc, his]
     | false =>
      rw [if_neg (by decide)]
      refine fin 5 _ gh9 rfl q7 (qe_ ?h4)
      case h4 => simp [qe, hC, h1, h2, h3, h4, h5, q1, q2, q3, q4, q5, q6.isC, q6.st, q6.dg, q6.ar, q6.ln, hcc, his]
    ·rw [if_neg h5]
     refine fin 1 _ gh rfl (by simp) (qe_ ?h5)
     case h5 => simp [qe, hC, h1, h2, h3, h4, h5]
   ·rw [if_neg h4]
    refine fin 1 _ gh rfl (by simp) (qe_ ?h6)
    case h6 => simp [qe, hC, h1, h2, h3, h4]
  ·rw [if_neg h3]
   refine fin 4 _ gh rfl (by simp) (qe_ ?h7)
   case h7 => simp [qe, hC, h1, h2, h3]
 ·rw [if_neg he]
  have he' : (chkE ins ands != 0) = true := by simp [he]
  simp only [graphV] at hC
  generalize chkE ins ands = e at *
  generalize ands.map andV = G at *
  refine fin e _ gh rfl (by simp) (qe_ ?h8)
  case h8 => simp [qe, hC, he]
end
end Go.Lw
end

/-! Unrolling: a maker of clauses that lies ahead of other boxes; a state's number; what is bound; what is bad. -/
section
namespace Go.Lw
open Go
def mkR (gh : List GObj) (vars : Int) (cls : List (List Int)) (rest : List GObj) : List GObj := gh ++ .cells [I vars, .sl true 1 (cls.map fun l => LI l)] :: rest
def uroO (m : Nat) (c : Ci) (f : Int) : GObj := .cells [.ptr true m 0, I c.ins, .sl false 2 (c.ands.map andV), I c.inp, I c.st, LI c.inits, LI c.nexts, LI c.bads, LI c.holds, I f]
section
variable {gh rest : List GObj}
theorem j12y {vars : Int} {cls : List (List Int)} : (mkR gh vars cls rest)[gh.length]? = some (.cells [I vars, .sl true 1 (cls.map fun l => LI l)]) := by simp [mkR]
theorem mkR_un {vars : Int} {cls : List (List Int)} {x : GObj} : (mkR gh vars cls (x :: rest))[gh.length + 1]? = some x := by
 simp [mkR]
theorem jq7 {vars : Int} {cls : List (List Int)} {c : List Int} (hs : cls.length ≤ 1000000000) : callL pg 91 [.ptr true gh.length 0, LI c] (mkR gh vars cls rest) = some (.tup [], mkR gh vars (cls ++ [c]) rest) := by
 have hmx : (cls.length + 1) * 24 ≤ maxBytes := by
  have : maxBytes = 140737488355328 := rfl
  omega
 have h1 := qas_ (pg := pg) (gh := mkR gh vars cls rest) (g0 := gh.length) (o0 := 0) (v1 := LI c) (e := .normal) (s := ⟨[], [], mkR gh vars (cls ++ [c]) rest⟩) (by
  simp [qas, mkR, hmx, spliceAt])
 rw [jqd (fn := q3o) rfl rfl h1]
 simp [finish, results, q3o, resOfs, resOk]
theorem j12z {r more vars : Int} {cls : List (List Int)} (hs : cls.length ≤ 1000000000) : callL pg 54 [.ptr true gh.length 0, I r, I more] (mkR gh vars cls rest) = some (.tup [], mkR gh vars (cls ++ mustC r more) rest) := by
 have h1 : runL pg q3k ⟨[(0, .ptr true gh.length 0), (1, I r), (2, I more)], [], mkR gh vars cls rest⟩ = some (.normal, ⟨[], [], mkR gh vars (cls ++ mustC r more) rest⟩) := by
  refine q31_ ?_
  by_cases h1 : r = 1
  ·simp [q31, h1, mustC]
  by_cases h0 : r = 0
  ·have ha := jq7 (gh := gh) (rest := rest) (vars := vars) (cls := cls) (c := []) hs
   simp only [LI, List.map_nil] at ha
   simp [q31, h0, mustC, ha]
  ·have hn := jrs r more (mkR gh vars cls rest)
   have ha := jq7 (gh := gh) (rest := rest) (vars := vars) (cls := cls) (c := [numE r more]) hs
   simp only [LI, List.map_cons, List.map_nil] at ha
   simp [q31, h1, h0, mustC, hn, ha]
 rw [jqd (fn := q3l) rfl rfl h1]
 simp [finish, results, q3l, resOfs, resOk]
variable {ins : Int} {ands : List (Int × Int)}
def anR (gh : List GObj) (ins : Int) (ands : List (Int × Int)) (more vars : Int) (cls : List (List Int)) (rest : List GObj) (i : Nat) : St :=
 ⟨[(0, .ptr true gh.length 0), (2, I more), (4, .ptr false 0 0), (12, .sl false 2 (ands.map andV)), (13, I ands.length), (14, I (i : Int))], [[I ins, .sl false 2 (ands.map andV)]], mkR gh vars cls rest⟩
theorem j130 {more vars : Int} {cls : List (List Int)} {i : Nat} (hlt : i < ands.length) (hl : ands.length ≤ 1000000) (hs : cls.length ≤ 900000000) :
  q30 pg gh.length 0 more (.sl false 2 (ands.map andV)) ands.length i ins (.sl false 2 (ands.map andV)) (mkR gh vars cls rest) = some (.normal, anR gh ins ands more vars (cls ++ andC ins more i ands[i]) rest (i + 1)) := by
 have e2 : IntKind.i64.wrap ((i : Int) + 1) = ((i + 1 : Nat) : Int) := by rw [jph (by omega) (by omega)]; omega
 have hx : (ands.map andV)[i]? = some (.agg [I ands[i].1, I ands[i].2]) := by simp [List.getElem?_eq_getElem hlt, andV]
 generalize hy : ands[i] = x at *
 obtain ⟨a, b⟩ := x
 have hltI : (i : Int) < (ands.length : Int) := by omega
 have hn1 := jrs a more (mkR gh vars cls rest)
 have hn2 := jrs b more (mkR gh vars cls rest)
 have ha1 := jq7 (gh := gh) (rest := rest) (vars := vars) (cls := cls) (c := [negI (nOf ins more i), numE a more]) (by omega)
 have ha2 := jq7 (gh := gh) (rest := rest) (vars := vars) (cls := cls ++ [[negI (nOf ins more i), numE a more]]) (c := [negI (nOf ins more i), numE b more]) (by simp; omega)
 have ha3 := jq7 (gh := gh) (rest := rest) (vars := vars) (cls := (cls ++ [[negI (nOf ins more i), numE a more]]) ++ [[negI (nOf ins more i), numE b more]]) (c := [nOf ins more i, negI (numE a more), negI (numE b more)]) (by simp; omega)
 have e3 : ((cls ++ [[negI (nOf ins more i), numE a more]]) ++ [[negI (nOf ins more i), numE b more]]) ++ [[nOf ins more i, negI (numE a more), negI (numE b more)]] = cls ++ andC ins more i (a, b) := by simp [andC]
 rw [e3] at ha3
 simp only at hx
 generalize hN : nOf ins more i = N at *
 generalize hA : numE a more = A at *
 generalize hB : numE b more = B' at *
 unfold nOf at hN
 simp only [LI, List.map_cons, List.map_nil, negI] at ha1 ha2 ha3
 unfold anR
 generalize mkR gh vars (cls ++ andC ins more i (a, b)) rest = g3 at *
 generalize mkR gh vars (cls ++ [[IntKind.i64.wrap (-N), A]] ++ [[IntKind.i64.wrap (-N), B']]) rest = g2 at *
 generalize mkR gh vars (cls ++ [[IntKind.i64.wrap (-N), A]]) rest = g1 at *
 generalize mkR gh vars cls rest = g0 at *
 simp [q30, hltI, hx, hn1, hn2, hN, ha1, ha2, ha3, e2, -List.getElem?_map]
theorem jwu {more vars : Int} (hl : ands.length ≤ 1000000) : ∀ k i (cls : List (List Int)), i + k = ands.length → cls.length + 3 * k ≤ 900000000 →
  runL pg q3i (anR gh ins ands more vars cls rest i) = some (.normal, ⟨[], [], mkR gh vars (cls ++ andsC ins more i (ands.drop i)) rest⟩)
 | 0, i, cls, h, _ => by
  rw [List.drop_eq_nil_of_le (by omega)]
  have hlt : ¬ (i : Int) < (ands.length : Int) := by omega
  refine (jpp (s1 := ?s1) (q30_ ?h1)).trans ?r1
  case h1 => simp only [q30, decide_eq_false hlt, jpv]; rfl
  case r1 => simp [keep, andsC]
 | k + 1, i, cls, h, hs => by
  have hlt : i < ands.length := by omega
  refine jpj (q30_ (j130 hlt hl (by omega))) ?_
  rw [List.drop_eq_getElem_cons hlt, andsC, ← List.append_assoc]
  exact jwu hl k (i + 1) _ (by omega) (by simp [andC]; omega)
theorem j131 {more vars : Int} {cls : List (List Int)} (hl : ands.length ≤ 1000000) (hs : cls.length + 3 * ands.length ≤ 900000000) : callL pg 53 [.ptr true gh.length 0, graphV ins ands, I more] (mkR gh vars cls rest) = some (.tup [], mkR gh vars (cls ++ andsC ins more 0 ands) rest) := by
 have h := jwu (gh := gh) (rest := rest) (ins := ins) (more := more) (vars := vars) hl ands.length 0 cls (by omega) hs
 rw [List.drop_zero] at h
 unfold anR at h
 simp only [Int.natCast_zero] at h
 generalize mkR gh vars (cls ++ andsC ins more 0 ands) rest = g1 at *
 generalize mkR gh vars cls rest = g0 at *
 have h1 := qau_ (pg := pg) (gh := g0) (g0 := gh.length) (o0 := 0) (x1_0 := ins) (v1_1 := .sl false 2 (ands.map andV)) (x2 := more) (e := .normal) (s := ⟨[], [], g1⟩) (by
  simp [qau, h])
 rw [jqd (fn := q3j) rfl rfl h1]
 simp [finish, results, q3j, resOfs, resOk]
end
def stE (f inp t i : Int) : Int := IntKind.i64.wrap (IntKind.i64.wrap (IntKind.i64.wrap (IntKind.i64.wrap (t * f) + 1) + inp) + i)
theorem jwv {G : List GObj} {u m : Nat} {c : Ci} {f t i : Int} {so : Bool} (hu : G[u]? = some (uroO m c f)) : callL pg 292 [.ptr true u 0, I t, I i, B so] G = some (I (if so then stE f c.inp t i else negI (stE f c.inp t i)), G) := by
 unfold uroO at hu
 cases so with
 | true =>
  refine jpc (fn := q1n) (s := ?s1) rfl rfl (q6k_ ?h1) ?r1
  case h1 => simp [q6k, hu]; rfl
  case r1 => simp [finish, results, q1n, resOfs, resOf, resOk, stE]
 | false =>
  refine jpc (fn := q1n) (s := ?s2) rfl rfl (q6k_ ?h2) ?r2
  case h2 => simp [q6k, hu]; rfl
  case r2 => simp [finish, results, q1n, resOfs, resOf, resOk, stE, negI]
def bind1 (f inp t i x : Int) : List (List Int) :=
 if x < 2 then [[if x = 1 then stE f inp t i else negI (stE f inp t i)]]
 else [[negI (stE f inp t i), numE x (IntKind.i64.wrap (IntKind.i64.wrap (t - 1) * f))], [stE f inp t i, negI (numE x (IntKind.i64.wrap (IntKind.i64.wrap (t - 1) * f)))]]
def bindC (f inp t : Int) : Nat → List Int → List (List Int)
 | _, [] => []
 | i, x :: l => bind1 f inp t i x ++ bindC f inp t (i + 1) l
theorem jtu (f inp t i x : Int) : (bind1 f inp t i x).length ≤ 2 := by unfold bind1; split <;> simp
theorem jr5 (f inp t : Int) : ∀ (i : Nat) (l : List Int), (bindC f inp t i l).length ≤ 2 * l.length
 | _, [] => Nat.le_refl _
 | i, x :: l => by
  have := jtu f inp t i x
  have := jr5 f inp t (i + 1) l
  rw [bindC, List.length_append, List.length_cons]; omega
theorem jww (f inp t : Int) : ∀ (i : Nat) (l : List Int), SL (bindC f inp t i l)
 | _, [] => fun l h => by cases h
 | i, x :: r => fun l h => by
  rw [bindC] at h
  rcases List.mem_append.1 h with h | h
  ·unfold bind1 at h
   split at h
   ·simp at h; subst h; simp
   ·simp at h; rcases h with rfl | rfl <;> simp
  ·exact jww f inp t (i + 1) r l h
section
variable {gh rest : List GObj} {c : Ci} {f vars t : Int}
def W (gh : List GObj) (vars : Int) (cls : List (List Int)) (c : Ci) (f : Int) (rest : List GObj) : List GObj := mkR gh vars cls (uroO gh.length c f :: rest)
theorem W_un {cls : List (List Int)} : (W gh vars cls c f rest)[gh.length + 1]? = some (uroO gh.length c f) := mkR_un
def bnSt (gh : List GObj) (vars : Int) (cls : List (List Int)) (c : Ci) (f : Int) (rest : List GObj) (t : Int) (i : Nat) : St :=
 ⟨[(0, .ptr true (gh.length + 1) 0), (1, I t), (12, LI c.nexts), (13, I c.nexts.length), (14, I (i : Int))], [], W gh vars cls c f rest⟩
theorem j132 {cls : List (List Int)} {i : Nat} (hlt : i < c.nexts.length) (hl : c.nexts.length ≤ 1000000000) (hs : cls.length ≤ 900000000) :
  q1w pg (gh.length + 1) 0 t (LI c.nexts) c.nexts.length i (W gh vars cls c f rest) = some (.normal, bnSt gh vars (cls ++ bind1 f c.inp t i c.nexts[i]) c f rest t (i + 1)) := by
 have e2 : IntKind.i64.wrap ((i : Int) + 1) = ((i + 1 : Nat) : Int) := by rw [jph (by omega) (by omega)]; omega
 have hx : (c.nexts.map I)[i]? = some (I c.nexts[i]) := by simp [List.getElem?_eq_getElem hlt]
 have hltI : (i : Int) < (c.nexts.length : Int) := by omega
 have hS := fun (so : Bool) => jwv (so := so) (t := t) (i := (i : Int)) (W_un (gh := gh) (rest := rest) (c := c) (f := f) (vars := vars) (cls := cls))
 have hS1 := hS true
 have hu0 := W_un (gh := gh) (rest := rest) (c := c) (f := f) (vars := vars) (cls := cls)
 unfold bnSt bind1
 simp only [if_true, LI] at hS1 ⊢
 generalize c.nexts[i] = x at *
 have hS2 := hS (decide (x = 1))
 have hN := jrs x (IntKind.i64.wrap (IntKind.i64.wrap (t - 1) * f)) (W gh vars cls c f rest)
 generalize hn : stE f c.inp t i = n at *
 generalize hA : numE x (IntKind.i64.wrap (IntKind.i64.wrap (t - 1) * f)) = A at *
 have hk : ∀ G : List GObj, runL pg q1m ⟨[(0, .ptr true (gh.length + 1) 0), (1, I t), (12, .sl false 1 (c.nexts.map I)), (13, I c.nexts.length), (14, I (i : Int))], [], G⟩ = some (.normal, ⟨[(0, .ptr true (gh.length + 1) 0), (1, I t), (12, .sl false 1 (c.nexts.map I)), (13, I c.nexts.length), (14, I ((i + 1 : Nat) : Int))], [], G⟩) := fun G => by
  refine qax_ ?_
  simp [qax, e2]
 by_cases h2 : x < 2
 ·rw [if_pos h2]
  have ha := jq7 (gh := gh) (rest := uroO gh.length c f :: rest) (vars := vars) (cls := cls) (c := [if x = 1 then n else negI n]) (by omega)
  have e1 : (if decide (x = 1) = true then n else negI n) = if x = 1 then n else negI n := by
   by_cases h : x = 1 <;> simp [h]
  rw [e1] at hS2
  generalize (if x = 1 then n else negI n) = y at *
  simp only [LI, List.map_cons, List.map_nil] at ha
  have ha' : callL pg 91 [.ptr true gh.length 0, .sl false 1 [I y]] (W gh vars cls c f rest) = some (.tup [], W gh vars (cls ++ [[y]]) c f rest) := ha
  generalize W gh vars (cls ++ [[y]]) c f rest = g1 at *
  generalize W gh vars cls c f rest = g0 at *
  unfold uroO at hu0
  simp [q1w, hltI, hx, hS1, hS2, h2, hu0, ha', hk, -List.getElem?_map]
 ·rw [if_neg h2]
  have ha1 := jq7 (gh := gh) (rest := uroO gh.length c f :: rest) (vars := vars) (cls := cls) (c := [negI n, A]) (by omega)
  have ha2 := jq7 (gh := gh) (rest := uroO gh.length c f :: rest) (vars := vars) (cls := cls ++ [[negI n, A]]) (c := [n, negI A]) (by simp; omega)
  have hu1 := W_un (gh := gh) (rest := rest) (c := c) (f := f) (vars := vars) (cls := cls ++ [[negI n, A]])
  rw [List.append_assoc] at ha2
  simp only [LI, List.map_cons, List.map_nil, negI, List.cons_append, List.nil_append] at ha1 ha2 hu1 ⊢
  have ha1' : callL pg 91 [.ptr true gh.length 0, .sl false 1 [I (IntKind.i64.wrap (-n)), I A]] (W gh vars cls c f rest) = some (.tup [], W gh vars (cls ++ [[IntKind.i64.wrap (-n), A]]) c f rest) := ha1
  have ha2' : callL pg 91 [.ptr true gh.length 0, .sl false 1 [I n, I (IntKind.i64.wrap (-A))]] (W gh vars (cls ++ [[IntKind.i64.wrap (-n), A]]) c f rest) = some (.tup [], W gh vars (cls ++ [[IntKind.i64.wrap (-n), A], [n, IntKind.i64.wrap (-A)]]) c f rest) := ha2
  generalize W gh vars (cls ++ [[IntKind.i64.wrap (-n), A], [n, IntKind.i64.wrap (-A)]]) c f rest = g2 at *
  generalize W gh vars (cls ++ [[IntKind.i64.wrap (-n), A]]) c f rest = g1 at *
  generalize W gh vars cls c f rest = g0 at *
  unfold uroO at hu0 hu1
  simp [q1w, hltI, hx, hS1, h2, hu0, hu1, hN, ha1', ha2', hk, -List.getElem?_map]
theorem jwx (hl : c.nexts.length ≤ 1000000000) : ∀ k i (cls : List (List Int)), i + k = c.nexts.length → cls.length + 2 * k ≤ 900000000 →
  runL pg q5e (bnSt gh vars cls c f rest t i) = some (.normal, ⟨[], [], W gh vars (cls ++ bindC f c.inp t i (c.nexts.drop i)) c f rest⟩)
 | 0, i, cls, h, _ => by
  rw [List.drop_eq_nil_of_le (by omega)]
  have hlt : ¬ (i : Int) < (c.nexts.length : Int) := by omega
  refine (jpp (s1 := ?s1) (q1w_ ?h1)).trans ?r1
  case h1 => simp only [q1w, decide_eq_false hlt, jpv]; rfl
  case r1 => simp [keep, bindC]
 | k + 1, i, cls, h, hs => by
  have hlt : i < c.nexts.length := by omega
  refine jpj (q1w_ (j132 hlt hl (by omega))) ?_
  rw [List.drop_eq_getElem_cons hlt, bindC, ← List.append_assoc]
  exact jwx hl k (i + 1) _ (by omega) (by have := jtu f c.inp t i c.nexts[i]; simp only [List.length_append]; omega)
theorem j133 {cls : List (List Int)} (hl : c.nexts.length ≤ 1000000000) (hs : cls.length + 2 * c.nexts.length ≤ 900000000) : callL pg 291 [.ptr true (gh.length + 1) 0, I t] (W gh vars cls c f rest) = some (.tup [], W gh vars (cls ++ bindC f c.inp t 0 c.nexts) c f rest) := by
 have h := jwx (gh := gh) (rest := rest) (vars := vars) (f := f) (t := t) hl c.nexts.length 0 cls (by omega) hs
 have hu := W_un (gh := gh) (rest := rest) (c := c) (f := f) (vars := vars) (cls := cls)
 rw [List.drop_zero] at h
 unfold bnSt at h
 simp only [Int.natCast_zero, LI] at h
 generalize W gh vars (cls ++ bindC f c.inp t 0 c.nexts) c f rest = g1 at *
 generalize W gh vars cls c f rest = g0 at *
 unfold uroO at hu
 have h1 := qay_ (pg := pg) (gh := g0) (g0 := gh.length + 1) (o0 := 0) (x1 := t) (e := .normal) (s := ⟨[], [], g1⟩) (by
  simp [qay, hu, h])
 rw [jqd (fn := q5f) rfl rfl h1]
 simp [finish, results, q5f, resOfs, resOk]
def badL (more : Int) : List Int → List Int
 | [] => []
 | x :: l => if x = 0 then badL more l else numE x more :: badL more l
theorem jwy (more : Int) : ∀ l : List Int, (badL more l).length ≤ l.length
 | [] => Nat.le_refl _
 | x :: l => by
  have := jwy more l
  rw [badL]; split <;> simp <;> omega
def badC (more : Int) (l : List Int) : List (List Int) := if 1 ∈ l then [] else [badL more l]
def bdSt (gh : List GObj) (vars : Int) (cls : List (List Int)) (c : Ci) (f : Int) (rest : List GObj) (t : Int) (acc : List Int) (i : Nat) : St :=
 ⟨[(0, .ptr true (gh.length + 1) 0), (1, I t), (4, .sl true 1 (acc.map I)), (12, LI c.bads), (13, I c.bads.length), (14, I (i : Int))], [], W gh vars cls c f rest⟩
theorem jwz {cls : List (List Int)} (hl : c.bads.length ≤ 1000000000) : ∀ k i (acc : List Int), i + k = c.bads.length → acc.length ≤ i →
  (1 ∈ c.bads.drop i → ∃ sl, runL pg q2o (bdSt gh vars cls c f rest t acc i) = some (.ret, ⟨sl, [], W gh vars cls c f rest⟩)) ∧
  (1 ∉ c.bads.drop i → runL pg q2o (bdSt gh vars cls c f rest t acc i) = some (.normal, ⟨[(0, .ptr true (gh.length + 1) 0), (4, .sl true 1 ((acc ++ badL (IntKind.i64.wrap (t * f)) (c.bads.drop i)).map I))], [], W gh vars cls c f rest⟩))
 | 0, i, acc, h, _ => by
  rw [List.drop_eq_nil_of_le (by omega)]
  refine ⟨fun h => by simp at h, fun _ => ?_⟩
  have hlt : ¬ (i : Int) < (c.bads.length : Int) := by omega
  refine (jpp (s1 := ?s1) (qu_ ?h1)).trans ?r1
  case h1 => simp only [qu, decide_eq_false hlt, jpv]; rfl
  case r1 => simp [keep, badL, stays]
 | k + 1, i, acc, h, ha => by
  have hm : maxBytes = 140737488355328 := rfl
  have hlt : i < c.bads.length := by omega
  have hltI : (i : Int) < (c.bads.length : Int) := by omega
  have e2 : IntKind.i64.wrap ((i : Int) + 1) = ((i + 1 : Nat) : Int) := by rw [jph (by omega) (by omega)]; omega
  have hx : (c.bads.map I)[i]? = some (I c.bads[i]) := by simp [List.getElem?_eq_getElem hlt]
  have hu := W_un (gh := gh) (rest := rest) (c := c) (f := f) (vars := vars) (cls := cls)
  have hrec := fun acc' (h' : acc'.length ≤ i + 1) => jwz (cls := cls) hl k (i + 1) acc' (by omega) h'
  have hk : ∀ A : List Int, runL pg q1o ⟨[(0, .ptr true (gh.length + 1) 0), (1, I t), (4, .sl true 1 (A.map I)), (12, .sl false 1 (c.bads.map I)), (13, I c.bads.length), (14, I (i : Int))], [], W gh vars cls c f rest⟩ = some (.normal, bdSt gh vars cls c f rest t A (i + 1)) := fun A => by
   refine qav_ ?_
   simp [qav, e2, bdSt]
  rw [List.drop_eq_getElem_cons hlt]
  have hN := jrs c.bads[i] (IntKind.i64.wrap (t * f)) (W gh vars cls c f rest)
  generalize hxx : c.bads[i] = x at *
  by_cases h0 : x = 0
  ·subst h0
   have e1 : (1 ∈ (0 : Int) :: c.bads.drop (i + 1)) = (1 ∈ c.bads.drop (i + 1)) := by simp
   rw [e1, badL, if_pos rfl]
   have hb : qu pg (gh.length + 1) 0 t (.sl true 1 (acc.map I)) (LI c.bads) c.bads.length i (W gh vars cls c f rest) = some (.normal, bdSt gh vars cls c f rest t acc (i + 1)) := by
    have hk' := hk acc
    unfold bdSt at hk' ⊢
    generalize W gh vars cls c f rest = g0 at *
    simp [qu, hltI, hx, hk', -List.getElem?_map]
   exact ⟨fun h1 => ((hrec acc (by omega)).1 h1).imp fun sl hs => jpj (qu_ hb) hs, fun h1 => jpj (qu_ hb) ((hrec acc (by omega)).2 h1)⟩
  ·by_cases h1 : x = 1
   ·subst h1
    refine ⟨fun _ => ⟨[(0, .ptr true (gh.length + 1) 0), (1, I t), (4, .sl true 1 (acc.map I)), (6, I 1), (12, LI c.bads), (13, I c.bads.length), (14, I (i : Int)), (32, B true)], lp_ret (qu_ ?h3)⟩, fun h => absurd (by simp) h⟩
    case h3 =>
     generalize W gh vars cls c f rest = g0 at *
     simp [qu, hltI, hx, -List.getElem?_map]
   ·have e1 : (1 ∈ x :: c.bads.drop (i + 1)) = (1 ∈ c.bads.drop (i + 1)) := by
     have : ¬ 1 = x := fun e => h1 e.symm
     simp [this]
    rw [e1, badL, if_neg h0]
    have hb : qu pg (gh.length + 1) 0 t (.sl true 1 (acc.map I)) (LI c.bads) c.bads.length i (W gh vars cls c f rest) = some (.normal, bdSt gh vars cls c f rest t (acc ++ [numE x (IntKind.i64.wrap (t * f))]) (i + 1)) := by
     have hk' := hk (acc ++ [numE x (IntKind.i64.wrap (t * f))])
     have hmx : (acc.length + 1) * 8 ≤ maxBytes := by omega
     unfold bdSt at hk' ⊢
     generalize W gh vars cls c f rest = g0 at *
     generalize numE x (IntKind.i64.wrap (t * f)) = A at *
     rw [List.map_append] at hk' ⊢
     unfold uroO at hu
     simp only [List.map_cons, List.map_nil] at hk' ⊢
     simp [qu, hltI, hx, h0, h1, hu, hN, hmx, hk', -List.getElem?_map]
    have hr := hrec (acc ++ [numE x (IntKind.i64.wrap (t * f))]) (by simp; omega)
    rw [List.append_assoc, List.cons_append, List.nil_append] at hr
    exact ⟨fun h1 => (hr.1 h1).imp fun sl hs => jpj (qu_ hb) hs, fun h1 => jpj (qu_ hb) (hr.2 h1)⟩
theorem bad_eq {cls : List (List Int)} (hl : c.bads.length ≤ 1000000000) (hs : cls.length ≤ 900000000) : callL pg 293 [.ptr true (gh.length + 1) 0, I t] (W gh vars cls c f rest) = some (.tup [], W gh vars (cls ++ badC (IntKind.i64.wrap (t * f)) c.bads) c f rest) := by
 have h := jwz (gh := gh) (rest := rest) (vars := vars) (f := f) (t := t) (cls := cls) hl c.bads.length 0 [] (by omega) (by simp)
 have hu := W_un (gh := gh) (rest := rest) (c := c) (f := f) (vars := vars) (cls := cls)
 rw [List.drop_zero, List.nil_append] at h
 unfold bdSt at h
 unfold badC
 simp only [Int.natCast_zero, LI, List.map_nil] at h
 by_cases h1 : 1 ∈ c.bads
 ·rw [if_pos h1, List.append_nil]
  obtain ⟨sl, hh⟩ := h.1 h1
  generalize W gh vars cls c f rest = g0 at *
  unfold uroO at hu
  have h1 := q6l_ (pg := pg) (gh := g0) (g0 := gh.length + 1) (o0 := 0) (x1 := t) (e := .ret) (s := ⟨sl, [], g0⟩) (by
   simp [q6l, hu, hh])
  rw [jqd (fn := q1p) rfl rfl h1]
  simp [finish, results, q1p, resOfs, resOk]
 ·rw [if_neg h1]
  have hh := h.2 h1
  have ha : callL pg 91 [.ptr true gh.length 0, LI (badL (IntKind.i64.wrap (t * f)) c.bads)] (W gh vars cls c f rest) = some (.tup [], W gh vars (cls ++ [badL (IntKind.i64.wrap (t * f)) c.bads]) c f rest) := jq7 (by omega)
  simp only [LI] at ha
  generalize badL (IntKind.i64.wrap (t * f)) c.bads = L at *
  generalize W gh vars (cls ++ [L]) c f rest = g1 at *
  generalize W gh vars cls c f rest = g0 at *
  unfold uroO at hu
  have hk := qaw_ (pg := pg) (gh := g0) (g0 := gh.length + 1) (o0 := 0) (v4 := .sl true 1 (L.map I)) (e := .normal) (s := ⟨[], [], g1⟩) (by
   simp [qaw, hu, ha])
  have h1 := q6l_ (pg := pg) (gh := g0) (g0 := gh.length + 1) (o0 := 0) (x1 := t) (e := .normal) (s := ⟨[], [], g1⟩) (by
   simp [q6l, hu, hh, hk])
  rw [jqd (fn := q1p) rfl rfl h1]
  simp [finish, results, q1p, resOfs, resOk]
end
end Go.Lw
end

/-! Unrolling: Raw, and what Clauses answers. -/
section
namespace Go.Lw
open Go
def upto (g : Nat → List (List Int)) : Nat → Nat → List (List Int)
 | _, 0 => []
 | i, k + 1 => g i ++ upto g (i + 1) k
theorem jq8 {g : Nat → List (List Int)} {n : Nat} (h : ∀ i, (g i).length ≤ n) : ∀ i k, (upto g i k).length ≤ n * k
 | _, 0 => Nat.zero_le _
 | i, k + 1 => by
  have := h i
  have := jq8 h (i + 1) k
  rw [upto, List.length_append, Nat.mul_succ]; omega
theorem jsg {g : Nat → List (List Int)} (h : ∀ i, SL (g i)) : ∀ i k, SL (upto g i k)
 | _, 0 => fun l h => by cases h
 | i, k + 1 => jr4 (h i) (jsg h (i + 1) k)
def initC (f inp : Int) (begun : Bool) : Nat → List Int → List (List Int)
 | _, [] => []
 | i, x :: l => (if begun = true ∧ 0 ≤ x then [[if x = 1 then stE f inp 0 i else negI (stE f inp 0 i)]] else []) ++ initC f inp begun (i + 1) l
theorem jsh (f inp : Int) (begun : Bool) : ∀ (i : Nat) (l : List Int), (initC f inp begun i l).length ≤ l.length
 | _, [] => Nat.le_refl _
 | i, x :: l => by
  have := jsh f inp begun (i + 1) l
  rw [initC, List.length_append, List.length_cons]; split <;> simp <;> omega
theorem jx0 (f inp : Int) (begun : Bool) : ∀ (i : Nat) (l : List Int), SL (initC f inp begun i l)
 | _, [] => fun l h => by cases h
 | i, x :: r => by
  rw [initC]
  refine jr4 (fun l h => ?_) (jx0 f inp begun (i + 1) r)
  split at h
  ·simp at h; subst h; simp
  ·cases h
def frE (c : Ci) : Int := IntKind.i64.wrap (c.ins + c.ands.length)
abbrev andsG (c : Ci) (f : Int) (t : Nat) : List (List Int) := andsC c.ins (IntKind.i64.wrap ((t : Int) * f)) 0 c.ands
abbrev bindG (c : Ci) (f : Int) (t : Nat) : List (List Int) := bindC f c.inp (t : Int) 0 c.nexts
abbrev holdG (c : Ci) (f : Int) (t : Nat) : List (List Int) := rootsC (IntKind.i64.wrap ((t : Int) * f)) c.holds
def rawC (c : Ci) (f : Int) (N : Nat) (begun : Bool) : List (List Int) :=
 upto (andsG c f) 0 (N + 1) ++ upto (bindG c f) 1 N ++ initC f c.inp begun 0 c.inits ++ upto (holdG c f) 0 (N + 1) ++ badC (IntKind.i64.wrap ((N : Int) * f)) c.bads
structure CiT (c : Ci) : Prop where
 inits : c.inits.length ≤ 1048576
 nexts : c.nexts.length ≤ 1048576
 bads : c.bads.length ≤ 1048576
 holds : c.holds.length ≤ 1048576
structure CiS (c : Ci) : Prop extends CiT c where
 ands : c.ands.length ≤ 1000000
section
variable {gh : List GObj} {c : Ci} {f vars : Int} {N : Nat} {begun : Bool}
def cC (c : Ci) : List PV := [I c.ins, .sl false 2 (c.ands.map andV), I c.inp, I c.st, LI c.inits, LI c.nexts, LI c.bads, LI c.holds]
theorem raw_l1 (hc : CiS c) (hN : N ≤ 40) : ∀ k i (cls : List (List Int)), i + k = N + 1 → cls.length + 3000000 * k ≤ 800000000 →
  runL pg q59 ⟨[(1, I (N : Int)), (2, B begun), (3, .ptr false 0 0), (7, .ptr true (gh.length + 1) 0), (43, I ((N + 1 : Nat) : Int)), (44, I (i : Int))], [cC c], W gh vars cls c f []⟩ =
   some (.normal, ⟨[(1, I (N : Int)), (2, B begun), (3, .ptr false 0 0), (7, .ptr true (gh.length + 1) 0)], [cC c], W gh vars (cls ++ upto (andsG c f) i k) c f []⟩)
 | 0, i, cls, h, _ => by
  have hlt : ¬ (i : Int) < ((N + 1 : Nat) : Int) := by omega
  refine (jpp (s1 := ?s1) (q6n_ ?h1)).trans ?r1
  case h1 => simp only [q6n, decide_eq_false hlt, jpv]; rfl
  case r1 => simp [keep, upto, stays, cC]
 | k + 1, i, cls, h, hs => by
  have hlt : (i : Int) < ((N + 1 : Nat) : Int) := by omega
  have e2 : IntKind.i64.wrap ((i : Int) + 1) = ((i + 1 : Nat) : Int) := by rw [jph (by omega) (by omega)]; omega
  have hu := W_un (gh := gh) (rest := []) (c := c) (f := f) (vars := vars) (cls := cls)
  have hA : callL pg 53 [.ptr true gh.length 0, graphV c.ins c.ands, I (IntKind.i64.wrap ((i : Int) * f))] (W gh vars cls c f []) = some (.tup [], W gh vars (cls ++ andsG c f i) c f []) := j131 hc.ands (by have := hc.ands; omega)
  have hlen : (andsG c f i).length = 3 * c.ands.length := jr2 _ _ _ _
  have hrec := raw_l1 hc hN k (i + 1) (cls ++ andsG c f i) (by omega) (by have := hc.ands; rw [List.length_append]; omega)
  rw [upto, ← List.append_assoc]
  refine jpj (q6n_ (s := ⟨[(1, I (N : Int)), (2, B begun), (3, .ptr false 0 0), (7, .ptr true (gh.length + 1) 0), (43, I ((N + 1 : Nat) : Int)), (44, I ((i + 1 : Nat) : Int))], [cC c], W gh vars (cls ++ andsG c f i) c f []⟩) ?h2) hrec
  case h2 =>
   generalize W gh vars (cls ++ andsG c f i) c f [] = g1 at *
   generalize W gh vars cls c f [] = g0 at *
   unfold uroO at hu
   unfold graphV at hA
   have hD := decide_eq_true hlt
   simp only [q6n, hD, jr1]
   simp [hu, hA, e2, cC]
theorem raw_l2 (hc : CiS c) (hN : N ≤ 40) : ∀ k i (cls : List (List Int)), i + k = N + 1 → cls.length + 3000000 * k ≤ 800000000 →
  runL pg q2i ⟨[(1, I (N : Int)), (2, B begun), (3, .ptr false 0 0), (7, .ptr true (gh.length + 1) 0), (9, I (i : Int))], [cC c], W gh vars cls c f []⟩ =
   some (.normal, ⟨[(1, I (N : Int)), (2, B begun), (3, .ptr false 0 0), (7, .ptr true (gh.length + 1) 0)], [cC c], W gh vars (cls ++ upto (bindG c f) i k) c f []⟩)
 | 0, i, cls, h, _ => by
  have hlt : ¬ (i : Int) ≤ (N : Int) := by omega
  refine (jpp (s1 := ?s1) (q6o_ ?h1)).trans ?r1
  case h1 => simp only [q6o, decide_eq_false hlt, jpv]; rfl
  case r1 => simp [keep, upto, stays, cC]
 | k + 1, i, cls, h, hs => by
  have hlt : (i : Int) ≤ (N : Int) := by omega
  have e2 : IntKind.i64.wrap ((i : Int) + 1) = ((i + 1 : Nat) : Int) := by rw [jph (by omega) (by omega)]; omega
  have hA : callL pg 291 [.ptr true (gh.length + 1) 0, I (i : Int)] (W gh vars cls c f []) = some (.tup [], W gh vars (cls ++ bindG c f i) c f []) := j133 (by have := hc.nexts; omega) (by have := hc.nexts; omega)
  have hlen : (bindG c f i).length ≤ 2 * c.nexts.length := jr5 _ _ _ _ _
  have hrec := raw_l2 hc hN k (i + 1) (cls ++ bindG c f i) (by omega) (by have := hc.nexts; rw [List.length_append]; omega)
  rw [upto, ← List.append_assoc]
  refine jpj (q6o_ (s := ⟨[(1, I (N : Int)), (2, B begun), (3, .ptr false 0 0), (7, .ptr true (gh.length + 1) 0), (9, I ((i + 1 : Nat) : Int))], [cC c], W gh vars (cls ++ bindG c f i) c f []⟩) ?h2) hrec
  case h2 =>
   generalize W gh vars (cls ++ bindG c f i) c f [] = g1 at *
   generalize W gh vars cls c f [] = g0 at *
   have hD := decide_eq_true hlt
   simp only [q6o, hD, jr1]
   simp [hA, e2, cC]
theorem raw_l3 (hc : CiS c) : ∀ k i (cls : List (List Int)), i + k = c.inits.length → cls.length + k ≤ 800000000 →
  runL pg q5a ⟨[(1, I (N : Int)), (2, B begun), (3, .ptr false 0 0), (7, .ptr true (gh.length + 1) 0), (70, LI c.inits), (71, I c.inits.length), (72, I (i : Int))], [cC c], W gh vars cls c f []⟩ =
   some (.normal, ⟨[(1, I (N : Int)), (3, .ptr false 0 0), (7, .ptr true (gh.length + 1) 0)], [cC c], W gh vars (cls ++ initC f c.inp begun i (c.inits.drop i)) c f []⟩)
 | 0, i, cls, h, _ => by
  have hlt : ¬ (i : Int) < (c.inits.length : Int) := by omega
  rw [List.drop_eq_nil_of_le (by omega)]
  refine (jpp (s1 := ?s1) (q1x_ ?h1)).trans ?r1
  case h1 => simp only [q1x, decide_eq_false hlt, jpv]; rfl
  case r1 => simp [keep, initC, stays, cC]
 | k + 1, i, cls, h, hs => by
  have hlt : i < c.inits.length := by omega
  have hltI : (i : Int) < (c.inits.length : Int) := by omega
  have hli := hc.inits
  have e2 : IntKind.i64.wrap ((i : Int) + 1) = ((i + 1 : Nat) : Int) := by rw [jph (by omega) (by omega)]; omega
  have hx : (c.inits.map I)[i]? = some (I c.inits[i]) := by simp [List.getElem?_eq_getElem hlt]
  have hu := W_un (gh := gh) (rest := []) (c := c) (f := f) (vars := vars) (cls := cls)
  rw [List.drop_eq_getElem_cons hlt, initC, ← List.append_assoc]
  generalize c.inits[i] = x at *
  have hS := jwv (so := decide (x = 1)) (t := 0) (i := (i : Int)) hu
  have e1 : (if decide (x = 1) = true then stE f c.inp 0 i else negI (stE f c.inp 0 i)) = if x = 1 then stE f c.inp 0 i else negI (stE f c.inp 0 i) := by
   by_cases h : x = 1 <;> simp [h]
  rw [e1] at hS
  generalize (if x = 1 then stE f c.inp 0 i else negI (stE f c.inp 0 i)) = y at *
  have ha : callL pg 91 [.ptr true gh.length 0, LI [y]] (W gh vars cls c f []) = some (.tup [], W gh vars (cls ++ [[y]]) c f []) := jq7 (by omega)
  have hk : ∀ G : List GObj, runL pg qz ⟨[(1, I (N : Int)), (2, B begun), (3, .ptr false 0 0), (7, .ptr true (gh.length + 1) 0), (70, .sl false 1 (c.inits.map I)), (71, I c.inits.length), (72, I (i : Int))], [cC c], G⟩ = some (.normal, ⟨[(1, I (N : Int)), (2, B begun), (3, .ptr false 0 0), (7, .ptr true (gh.length + 1) 0), (70, .sl false 1 (c.inits.map I)), (71, I c.inits.length), (72, I ((i + 1 : Nat) : Int))], [cC c], G⟩) := fun G => by
   refine qaz_ ?_
   simp [qaz, e2, cC]
  simp only [LI, List.map_cons, List.map_nil] at ha
  by_cases hb : begun = true ∧ 0 ≤ x
  ·rw [if_pos hb]
   have hrec := raw_l3 hc k (i + 1) (cls ++ [[y]]) (by omega) (by simp; omega)
   refine jpj (q1x_ (s := ⟨[(1, I (N : Int)), (2, B begun), (3, .ptr false 0 0), (7, .ptr true (gh.length + 1) 0), (70, LI c.inits), (71, I c.inits.length), (72, I ((i + 1 : Nat) : Int))], [cC c], W gh vars (cls ++ [[y]]) c f []⟩) ?h2) hrec
   case h2 =>
    obtain ⟨rfl, h0⟩ := hb
    generalize W gh vars (cls ++ [[y]]) c f [] = g1 at *
    generalize W gh vars cls c f [] = g0 at *
    unfold uroO at hu
    unfold cC at hk ⊢
    simp [q1x, hltI, hx, h0, hu, hS, ha, hk, show Nat.ble 1 1 = true from rfl, -List.getElem?_map]
  ·rw [if_neg hb, List.append_nil]
   have hrec := raw_l3 hc k (i + 1) cls (by omega) (by omega)
   refine jpj (q1x_ (s := ⟨[(1, I (N : Int)), (2, B begun), (3, .ptr false 0 0), (7, .ptr true (gh.length + 1) 0), (70, LI c.inits), (71, I c.inits.length), (72, I ((i + 1 : Nat) : Int))], [cC c], W gh vars cls c f []⟩) ?h3) hrec
   case h3 =>
    generalize W gh vars cls c f [] = g0 at *
    unfold cC at hk ⊢
    cases begun with
    | true =>
     have h0 : ¬ 0 ≤ x := fun h => hb ⟨rfl, h⟩
     simp [q1x, hltI, hx, h0, hk, show Nat.ble 1 1 = true from rfl, -List.getElem?_map]
    | false => simp [q1x, hltI, hx, hk, show Nat.ble 1 1 = true from rfl, -List.getElem?_map]
theorem raw_l5 (hc : CiS c) (hN : N ≤ 40) {t : Nat} : ∀ k i (cls : List (List Int)), i + k = c.holds.length → cls.length + k ≤ 800000000 →
  runL pg q5b ⟨[(1, I (N : Int)), (3, .ptr false 0 0), (7, .ptr true (gh.length + 1) 0), (12, I (t : Int)), (95, I ((N + 1 : Nat) : Int)), (96, I (t : Int)), (100, LI c.holds), (101, I c.holds.length), (102, I (i : Int))], [cC c], W gh vars cls c f []⟩ =
   some (.normal, ⟨[(1, I (N : Int)), (3, .ptr false 0 0), (7, .ptr true (gh.length + 1) 0), (95, I ((N + 1 : Nat) : Int)), (96, I (t : Int))], [cC c], W gh vars (cls ++ rootsC (IntKind.i64.wrap ((t : Int) * f)) (c.holds.drop i)) c f []⟩)
 | 0, i, cls, h, _ => by
  have hlt : ¬ (i : Int) < (c.holds.length : Int) := by omega
  rw [List.drop_eq_nil_of_le (by omega)]
  refine (jpp (s1 := ?s1) (q6p_ ?h1)).trans ?r1
  case h1 => simp only [q6p, decide_eq_false hlt, jpv]; rfl
  case r1 => simp [keep, rootsC, stays, cC]
 | k + 1, i, cls, h, hs => by
  have hlt : i < c.holds.length := by omega
  have hltI : (i : Int) < (c.holds.length : Int) := by omega
  have hli := hc.holds
  have e2 : IntKind.i64.wrap ((i : Int) + 1) = ((i + 1 : Nat) : Int) := by rw [jph (by omega) (by omega)]; omega
  have hx : (c.holds.map I)[i]? = some (I c.holds[i]) := by simp [List.getElem?_eq_getElem hlt]
  have hu := W_un (gh := gh) (rest := []) (c := c) (f := f) (vars := vars) (cls := cls)
  rw [List.drop_eq_getElem_cons hlt, rootsC, ← List.append_assoc]
  generalize c.holds[i] = x at *
  have hm : callL pg 54 [.ptr true gh.length 0, I x, I (IntKind.i64.wrap ((t : Int) * f))] (W gh vars cls c f []) = some (.tup [], W gh vars (cls ++ mustC x (IntKind.i64.wrap ((t : Int) * f))) c f []) := j12z (by omega)
  have hml := jtt x (IntKind.i64.wrap ((t : Int) * f))
  have hrec := raw_l5 (t := t) hc hN k (i + 1) (cls ++ mustC x (IntKind.i64.wrap ((t : Int) * f))) (by omega) (by rw [List.length_append]; omega)
  refine jpj (q6p_ (s := ⟨[(1, I (N : Int)), (3, .ptr false 0 0), (7, .ptr true (gh.length + 1) 0), (12, I (t : Int)), (95, I ((N + 1 : Nat) : Int)), (96, I (t : Int)), (100, LI c.holds), (101, I c.holds.length), (102, I ((i + 1 : Nat) : Int))], [cC c], W gh vars (cls ++ mustC x (IntKind.i64.wrap ((t : Int) * f))) c f []⟩) ?h2) hrec
  case h2 =>
   generalize W gh vars (cls ++ mustC x (IntKind.i64.wrap ((t : Int) * f))) c f [] = g1 at *
   generalize W gh vars cls c f [] = g0 at *
   unfold uroO at hu
   unfold cC
   simp [q6p, hltI, hx, hu, hm, e2, show Nat.ble 1 1 = true from rfl, -List.getElem?_map]
theorem raw_l4 (hc : CiS c) (hN : N ≤ 40) : ∀ k i (cls : List (List Int)), i + k = N + 1 → cls.length + 1048576 * k ≤ 800000000 →
  runL pg q5c ⟨[(1, I (N : Int)), (3, .ptr false 0 0), (7, .ptr true (gh.length + 1) 0), (95, I ((N + 1 : Nat) : Int)), (96, I (i : Int))], [cC c], W gh vars cls c f []⟩ =
   some (.normal, ⟨[(1, I (N : Int)), (7, .ptr true (gh.length + 1) 0)], [], W gh vars (cls ++ upto (holdG c f) i k) c f []⟩)
 | 0, i, cls, h, _ => by
  have hlt : ¬ (i : Int) < ((N + 1 : Nat) : Int) := by omega
  refine (jpp (s1 := ?s1) (q6q_ ?h1)).trans ?r1
  case h1 => simp only [q6q, decide_eq_false hlt, jpv]; rfl
  case r1 => simp [keep, upto, stays, cC]
 | k + 1, i, cls, h, hs => by
  have hlt : (i : Int) < ((N + 1 : Nat) : Int) := by omega
  have hli := hc.holds
  have e2 : IntKind.i64.wrap ((i : Int) + 1) = ((i + 1 : Nat) : Int) := by rw [jph (by omega) (by omega)]; omega
  have hin := raw_l5 (gh := gh) (vars := vars) (f := f) (N := N) (t := i) hc hN c.holds.length 0 cls (by omega) (by omega)
  have hlen : (holdG c f i).length ≤ c.holds.length := jr3 _ _
  have hrec := raw_l4 hc hN k (i + 1) (cls ++ holdG c f i) (by omega) (by rw [List.length_append]; omega)
  have hk : ∀ G : List GObj, runL pg q2j ⟨[(1, I (N : Int)), (3, .ptr false 0 0), (7, .ptr true (gh.length + 1) 0), (95, I ((N + 1 : Nat) : Int)), (96, I (i : Int))], [cC c], G⟩ = some (.normal, ⟨[(1, I (N : Int)), (3, .ptr false 0 0), (7, .ptr true (gh.length + 1) 0), (95, I ((N + 1 : Nat) : Int)), (96, I ((i + 1 : Nat) : Int))], [cC c], G⟩) := fun G => by
   refine qb0_ ?_
   simp only [qb0, e2, cC]
  rw [upto, ← List.append_assoc]
  rw [List.drop_zero] at hin
  refine jpj (q6q_ (s := ⟨[(1, I (N : Int)), (3, .ptr false 0 0), (7, .ptr true (gh.length + 1) 0), (95, I ((N + 1 : Nat) : Int)), (96, I ((i + 1 : Nat) : Int))], [cC c], W gh vars (cls ++ holdG c f i) c f []⟩) ?h2) hrec
  case h2 =>
   unfold holdG at *
   generalize W gh vars (cls ++ rootsC (IntKind.i64.wrap ((i : Int) * f)) c.holds) c f [] = g1 at *
   generalize W gh vars cls c f [] = g0 at *
   have hkk := hk g1
   unfold cC at hin hkk ⊢
   simp only [Int.natCast_zero, LI] at hin hkk ⊢
   have hD := decide_eq_true hlt
   generalize ((N + 1 : Nat) : Int) = M at *
   simp [q6q, hD, hin, hkk, show Nat.ble 1 1 = true from rfl]
theorem Raw_eq (hc : CiS c) (hN : N ≤ 40) : callL pg 276 [ciV c, I (N : Int), B begun] gh = some (.ptr true (gh.length + 1) 0, W gh (IntKind.i64.wrap (frE c * ((N + 1 : Nat) : Int))) (rawC c (frE c) N begun) c (frE c) []) := by
 have e1 : IntKind.i64.wrap ((N : Int) + 1) = ((N + 1 : Nat) : Int) := by rw [jph (by omega) (by omega)]; omega
 generalize hv : IntKind.i64.wrap (frE c * ((N + 1 : Nat) : Int)) = vars
 generalize hf : frE c = f at *
 have l1 := raw_l1 (gh := gh) (vars := vars) (f := f) (begun := begun) hc hN (N + 1) 0 [] (by omega) (by simp; omega)
 have n1 : (upto (andsG c f) 0 (N + 1)).length ≤ 3000000 * (N + 1) := jq8 (fun i => by have := hc.ands; rw [jr2]; omega) _ _
 rw [List.nil_append] at l1
 generalize h1 : upto (andsG c f) 0 (N + 1) = A1 at *
 have l2 := raw_l2 (gh := gh) (vars := vars) (f := f) (begun := begun) hc hN N 1 A1 (by omega) (by omega)
 have n2 : (upto (bindG c f) 1 N).length ≤ 2097152 * N := jq8 (fun i => by have := hc.nexts; have := jr5 f c.inp i 0 c.nexts; show (bindC f c.inp i 0 c.nexts).length ≤ _; omega) _ _
 generalize h2 : upto (bindG c f) 1 N = A2 at *
 have l3 := raw_l3 (gh := gh) (vars := vars) (f := f) (begun := begun) (N := N) hc c.inits.length 0 (A1 ++ A2) (by omega) (by have := hc.inits; rw [List.length_append]; omega)
 have n3 := jsh f c.inp begun 0 c.inits
 rw [List.drop_zero] at l3
 generalize h3 : initC f c.inp begun 0 c.inits = A3 at *
 have l4 := raw_l4 (gh := gh) (vars := vars) (f := f) hc hN (N + 1) 0 (A1 ++ A2 ++ A3) (by omega) (by have := hc.inits; simp only [List.length_append]; omega)
 have n4 : (upto (holdG c f) 0 (N + 1)).length ≤ 1048576 * (N + 1) := jq8 (fun i => by have := hc.holds; have := jr3 (IntKind.i64.wrap ((i : Int) * f)) c.holds; show (rootsC _ c.holds).length ≤ _; omega) _ _
 generalize h4 : upto (holdG c f) 0 (N + 1) = A4 at *
 have hb := bad_eq (gh := gh) (rest := []) (c := c) (f := f) (vars := vars) (t := (N : Int)) (cls := A1 ++ A2 ++ A3 ++ A4) (by have := hc.bads; omega) (by have := hc.inits; simp only [List.length_append]; omega)
 have hR : rawC c f N begun = A1 ++ A2 ++ A3 ++ A4 ++ badC (IntKind.i64.wrap ((N : Int) * f)) c.bads := by rw [rawC, h1, h2, h3, h4]
 rw [← hR] at hb
 generalize rawC c f N begun = R at *
 generalize ((N + 1 : Nat) : Int) = M at *
 have hg0 : W gh vars [] c f [] = gh ++ [.cells [I vars, .sl true 1 []], uroO gh.length c f] := rfl
 generalize hgR : W gh vars R c f [] = gR at *
 have hlR : gR.take gh.length = gh := by rw [← hgR]; simp [W, mkR]
 generalize W gh vars (A1 ++ A2 ++ A3 ++ A4) c f [] = g4 at *
 generalize W gh vars (A1 ++ A2 ++ A3) c f [] = g3 at *
 generalize W gh vars (A1 ++ A2) c f [] = g2 at *
 generalize W gh vars A1 c f [] = g1 at *
 have k6 : runL pg q2k ⟨[(1, I (N : Int)), (7, .ptr true (gh.length + 1) 0)], [], g4⟩ = some (.ret, ⟨[(6, .ptr true (gh.length + 1) 0)], [], gR⟩) := by
  refine qb1_ ?_
  simp [qb1, hb]
 have k4 : runL pg q2l ⟨[(1, I (N : Int)), (3, .ptr false 0 0), (7, .ptr true (gh.length + 1) 0)], [cC c], g3⟩ = some (.ret, ⟨[(6, .ptr true (gh.length + 1) 0)], [], gR⟩) := by
  refine qb2_ ?_
  unfold cC at l4
  simp only [Int.natCast_zero, LI] at l4
  simp only [qb2, e1]
  simp [l4, k6]
 have k2 : runL pg q2m ⟨[(1, I (N : Int)), (2, B begun), (3, .ptr false 0 0), (7, .ptr true (gh.length + 1) 0)], [cC c], g2⟩ = some (.ret, ⟨[(6, .ptr true (gh.length + 1) 0)], [], gR⟩) := by
  refine qb3_ ?_
  unfold cC at l3 k4
  simp only [Int.natCast_zero, LI] at l3 k4
  simp [qb3, l3, k4]
 have k1 : runL pg q2n ⟨[(1, I (N : Int)), (2, B begun), (3, .ptr false 0 0), (7, .ptr true (gh.length + 1) 0)], [cC c], g1⟩ = some (.ret, ⟨[(6, .ptr true (gh.length + 1) 0)], [], gR⟩) := by
  refine qb4_ ?_
  unfold cC at l2 k2
  simp only [LI] at l2 k2
  have l2' : runL pg q2i ⟨[(1, I (N : Int)), (2, B begun), (3, .ptr false 0 0), (7, .ptr true (gh.length + 1) 0), (9, I 1)], [[I c.ins, .sl false 2 (c.ands.map andV), I c.inp, I c.st, .sl false 1 (c.inits.map I), .sl false 1 (c.nexts.map I), .sl false 1 (c.bads.map I), .sl false 1 (c.holds.map I)]], g1⟩ = _ := l2
  simp [qb4, l2', k2]
 unfold cC at l1 k1
 rw [hg0] at l1
 unfold uroO at l1
 unfold frE at hf
 simp only [Int.natCast_zero, LI] at l1 k1
 refine jpc (fn := q5d) (s := ⟨[(6, .ptr true (gh.length + 1) 0)], [], gR⟩) rfl rfl (qb5_ ?h5) ?r5
 case h5 =>
  simp only [qb5, e1, hf]
  simp [e1, hf, hv, l1, k1, spliceAt]
 case r5 => simp [finish, results, q5d, resOfs, resOf, resOk]
end
end Go.Lw
end

/-! Unrolling: what Clauses answers. -/
section
namespace Go.Lw
open Go
theorem unA8 {R : Type} (a b c d e f g h : PV) (k : PV → PV → PV → PV → PV → PV → PV → PV → Option R) : unA 8 (.agg [a, b, c, d, e, f, g, h]) k = k a b c d e f g h := rfl
theorem SL_raw {c : Ci} (hc : CiS c) (f : Int) (N : Nat) (begun : Bool) : SL (rawC c f N begun) := by
 unfold rawC
 refine jr4 (jr4 (jr4 (jr4 (jsg (fun i => jwr _ _ _ _) _ _) (jsg (fun i => jww _ _ _ _ _) _ _)) (jx0 _ _ _ _ _)) (jsg (fun i => jws _ _) _ _)) ?_
 intro l h
 unfold badC at h
 split at h
 ·cases h
 ·rw [List.mem_singleton] at h; subst h
  have := jwy (IntKind.i64.wrap ((N : Int) * f)) c.bads
  have := hc.bads
  simp only [Sz]; omega
def readyE (c : Ci) (steps : Int) (begun : Bool) : Int :=
 if ciE c = 0 then if steps < 0 then 3 else if 40 < steps then 3 else if begun = true ∧ c.inits.any (fun x => decide (1 < x)) = true then 7 else 0 else ciE c
section
variable {gh : List GObj} {c : Ci} {begun : Bool}
theorem jx1 {l : List Int} (hl : l.length ≤ 1048576) : ∀ k i, i + k = l.length →
  runL pg q5h ⟨[(2, B begun), (22, LI l), (23, I l.length), (24, I (i : Int))], [], gh⟩ =
   if begun = true ∧ (l.drop i).any (fun x => decide (1 < x)) = true then some (.ret, ⟨[(6, I 7)], [], gh⟩) else some (.normal, ⟨[], [], gh⟩)
 | 0, i, h => by
  have hlt : ¬ (i : Int) < (l.length : Int) := by omega
  rw [List.drop_eq_nil_of_le (by omega), if_neg (by simp)]
  refine (jpp (s1 := ?s1) (q1y_ ?h1)).trans ?r1
  case h1 => simp only [q1y, decide_eq_false hlt, jpv]; rfl
  case r1 => simp [keep]
 | k + 1, i, h => by
  have hlt : i < l.length := by omega
  have hltI : (i : Int) < (l.length : Int) := by omega
  have e2 : IntKind.i64.wrap ((i : Int) + 1) = ((i + 1 : Nat) : Int) := by rw [jph (by omega) (by omega)]; omega
  have hx : (l.map I)[i]? = some (I l[i]) := by simp [List.getElem?_eq_getElem hlt]
  have hrec := jx1 hl k (i + 1) (by omega)
  rw [List.drop_eq_getElem_cons hlt, List.any_cons]
  generalize l[i] = x at *
  have hex : (begun = true ∧ (decide (1 < x)) = true) ∨ ¬ (begun = true ∧ (decide (1 < x)) = true) := Classical.em _
  rcases hex with ⟨rfl, h1⟩ | h1
  ·rw [if_pos ⟨rfl, by rw [h1]; rfl⟩]
   have h1' : 1 < x := of_decide_eq_true h1
   refine lp_ret (q1y_ ?h2)
   case h2 => simp [q1y, hltI, hx, h1', -List.getElem?_map]
  ·have e3 : (begun = true ∧ (decide (1 < x) || (l.drop (i + 1)).any fun x => decide (1 < x)) = true) ↔ (begun = true ∧ (l.drop (i + 1)).any (fun x => decide (1 < x)) = true) := by
    constructor
    ·rintro ⟨a, b⟩
     refine ⟨a, ?_⟩
     rcases Bool.or_eq_true_iff.1 b with b | b
     ·exact absurd ⟨a, b⟩ h1
     ·exact b
    ·rintro ⟨a, b⟩; exact ⟨a, by rw [b, Bool.or_true]⟩
   simp only [propext e3]
   refine jpj (s1 := ⟨[(2, B begun), (22, LI l), (23, I l.length), (24, I ((i + 1 : Nat) : Int))], [], gh⟩) (q1y_ ?h3) hrec
   case h3 =>
    cases begun with
    | true =>
     have h1' : ¬ 1 < x := fun h => h1 ⟨rfl, decide_eq_true h⟩
     simp [q1y, hltI, hx, h1', e2, -List.getElem?_map]
    | false => simp [q1y, hltI, hx, e2, -List.getElem?_map]
theorem bulk8 (hc : CiT c) : (c.inits.length + c.nexts.length + c.bads.length + c.holds.length) * 8 ≤ maxBytes := by
 have : maxBytes = 140737488355328 := rfl
 have := hc.inits; have := hc.nexts; have := hc.bads; have := hc.holds
 omega
theorem j134 {steps : Int} (hr : RA c.ands) (hc : CiT c) : callL pg 336 [ciV c, I steps, B begun] gh = some (I (readyE c steps begun), gh) := by
 have hC := j12t (gh := gh) c hr (bulk8 hc)
 have hl := jx1 (begun := begun) (gh := gh) hc.inits c.inits.length 0 (by omega)
 rw [List.drop_zero] at hl
 unfold readyE
 generalize ciE c = e at *
 have fin : ∀ (e : Int) (s : St), s = ⟨[(6, I e)], [], gh⟩ → runL pg q5j ⟨[(0, ciV c), (1, I steps), (2, B begun)], [], gh⟩ = some (.ret, s) → callL pg 336 [ciV c, I steps, B begun] gh = some (I e, gh) := by
  intro e s hs hrun
  subst hs
  refine jpc (fn := q5k) rfl rfl hrun ?_
  simp [finish, results, q5k, resOfs, resOf, resOk, get]
 simp only [ciV, LI, Int.natCast_zero] at hC hl fin ⊢
 have hLl : (c.inits.map I).length = c.inits.length := List.length_map _
 generalize hGa : c.ands.map andV = Ga at *
 generalize hGi : c.inits.map I = Gi at *
 generalize hGn : c.nexts.map I = Gn at *
 generalize hGb : c.bads.map I = Gb at *
 generalize hGh : c.holds.map I = Gh at *
 by_cases he : e = 0
 ·rw [if_pos he]
  subst he
  by_cases h1 : steps < 0
  ·rw [if_pos h1]
   refine fin 3 _ rfl (q12_ ?h1)
   case h1 => simp [q12, hC, h1]
  rw [if_neg h1]
  by_cases h2 : 40 < steps
  ·rw [if_pos h2]
   refine fin 3 _ rfl (q12_ ?h2)
   case h2 => simp [q12, hC, h1, h2]
  rw [if_neg h2]
  by_cases h3 : begun = true ∧ c.inits.any (fun x => decide (1 < x)) = true
  ·rw [if_pos h3] at hl ⊢
   refine fin 7 _ rfl (q12_ ?h3)
   case h3 => simp [q12, hC, h1, h2, hl, hLl]
  ·rw [if_neg h3] at hl ⊢
   have hk := qoy_ (pg := pg) (gh := gh) (e := .ret) (s := ⟨[(6, I 0)], [], gh⟩) rfl
   refine fin 0 _ rfl (q12_ ?h4)
   case h4 => simp [q12, hC, h1, h2, hl, hLl, hk]
 ·rw [if_neg he]
  refine fin e _ rfl (q12_ ?h5)
  case h5 => simp [q12, hC, he]
def limE (c : Ci) (N : Nat) (vars : Int) (cls : List (List Int)) : PV :=
 if 200000 < IntKind.i64.wrap (frE c * ((N + 1 : Nat) : Int)) then .tup [clV 0 [], I 3] else doneE vars cls
theorem j135 {N fid : Nat} {caps : List PV} {vars : Int} {cls : List (List Int)} (hN : N ≤ 40) (hcap : caps.all argOk = true) (hs : SL cls)
  (hf : callL pg fid caps gh = some (clV vars cls, gh)) : callL pg 265 [ciV c, I (N : Int), .fn fid caps] gh = some (limE c N vars cls, gh) := by
 have e1 : IntKind.i64.wrap ((N : Int) + 1) = ((N + 1 : Nat) : Int) := by rw [jph (by omega) (by omega)]; omega
 unfold limE frE
 generalize ((N + 1 : Nat) : Int) = M at *
 have hLl : (c.ands.map andV).length = c.ands.length := List.length_map _
 simp only [ciV, LI]
 generalize hGa : c.ands.map andV = Ga at *
 generalize hGi : c.inits.map I = Gi at *
 generalize hGn : c.nexts.map I = Gn at *
 generalize hGb : c.bads.map I = Gb at *
 generalize hGh : c.holds.map I = Gh at *
 by_cases hb : 200000 < IntKind.i64.wrap (IntKind.i64.wrap (c.ins + c.ands.length) * M)
 ·rw [if_pos hb]
  refine jpc (fn := q1l) (s := ?s1) rfl rfl (q6s_ ?h1) ?r1
  case h1 => simp [q6s, hLl, e1, hb]; rfl
  case r1 => simp [finish, results, q1l, resOfs, resOf, St.cellsAt, resOk, clV]
 ·rw [if_neg hb]
  have hD := j12x (gh := gh) (vars := vars) hs
  obtain ⟨n, cl, e, ho⟩ := jwt (vars := vars) (cls := cls)
  rw [ho] at hD ⊢
  have hn := jqf cl
  have hn2 := jqf cls
  unfold clV at hD hf ⊢
  generalize (cl.map fun l => LI l) = L at *
  generalize (cls.map fun l => LI l) = L2 at *
  refine jpc (fn := q1l) (s := ?s2) rfl rfl (q6s_ ?h2) ?r2
  case h2 => simp [q6s, hLl, e1, hb, jtm hcap, hf, hD]; rfl
  case r2 => simp [finish, results, q1l, resOfs, resOf, St.cellsAt, resOk, hn]
theorem j136 {G : List GObj} {a b d : Nat} {N : Nat} (hc : CiS c) (hN : N ≤ 40) (ha : G[a]? = some (.cells (cC c))) (hb : G[b]? = some (.cells [I (N : Int)])) (hd : G[d]? = some (.cells [B begun])) :
  callL pg 337 [.ptr true a 0, .ptr true b 0, .ptr true d 0] G = some (clV (IntKind.i64.wrap (frE c * ((N + 1 : Nat) : Int))) (rawC c (frE c) N begun), G) := by
 have hR := Raw_eq (gh := G) (begun := begun) hc hN
 generalize IntKind.i64.wrap (frE c * ((N + 1 : Nat) : Int)) = vars at *
 generalize rawC c (frE c) N begun = R at *
 generalize frE c = f at *
 have hu := W_un (gh := G) (rest := []) (c := c) (f := f) (vars := vars) (cls := R)
 have hm : (W G vars R c f [])[G.length]? = some (.cells [I vars, .sl true 1 (R.map fun l => LI l)]) := j12y
 have ht : (W G vars R c f []).take G.length = G := by simp [W, mkR]
 have hn := jqf R
 unfold uroO at hu
 unfold cC at ha
 unfold clV
 simp only [ciV, LI] at hR ha
 generalize W G vars R c f [] = G2 at *
 generalize (R.map fun l => LI l) = L at *
 refine jpc (fn := q5l) (s := ?s2) rfl rfl (qb6_ ?h2) ?r2
 case h2 => simp [qb6, unA8, ha, hb, hd, hR, hu, hm]; rfl
 case r2 => simp [finish, results, q5l, resOfs, resOf, St.cellsAt, resOk, hn, ht]
def clausesE (c : Ci) (steps : Int) (begun : Bool) : PV :=
 if readyE c steps begun = 0 then limE c steps.toNat (IntKind.i64.wrap (frE c * ((steps.toNat + 1 : Nat) : Int))) (rawC c (frE c) steps.toNat begun) else .tup [clV 0 [], I (readyE c steps begun)]
theorem jx2 {steps : Int} (h : readyE c steps begun = 0) : ciE c = 0 ∧ ∃ N : Nat, N ≤ 40 ∧ steps = (N : Int) := by
 unfold readyE at h
 split at h
 ·rename_i h0
  refine ⟨h0, ?_⟩
  split at h
  ·cases h
  ·split at h
   ·cases h
   ·exact ⟨steps.toNat, by omega, by omega⟩
 ·rename_i h0; exact absurd h h0
theorem j137 (c : Ci) (N : Nat) (vars : Int) (cls : List (List Int)) : ∃ (n : Int) (l : List (List Int)) (e : Int), limE c N vars cls = .tup [clV n l, I e] := by
 unfold limE; split
 ·exact ⟨_, _, _, rfl⟩
 ·exact jwt
theorem CiS_of (hc : CiT c) (h : ciE c = 0) : CiS c := by
 refine ⟨hc, ?_⟩
 unfold ciE at h
 split at h
 ·rename_i h0; exact (jto h0).2.1
 ·rename_i h0; exact absurd h h0
theorem j138 {steps : Int} (hr : RA c.ands) (hc : CiT c) : callL pg 329 [ciV c, I steps, B begun] gh = some (clausesE c steps begun, gh) := by
 have hR := j134 (gh := gh ++ [.cells (cC c), .cells [I steps], .cells [B begun]]) (begun := begun) (steps := steps) hr hc
 unfold clausesE
 by_cases h0 : readyE c steps begun = 0
 ·rw [if_pos h0]
  obtain ⟨hz, N, hN, rfl⟩ := jx2 h0
  have hc := CiS_of hc hz
  rw [h0] at hR
  rw [Int.toNat_natCast]
  have h1 := j136 (begun := begun) (G := gh ++ [.cells (cC c), .cells [I (N : Int)], .cells [B begun]]) (a := gh.length) (b := gh.length + 1) (d := gh.length + 2) hc hN (by simp) (by simp) (by simp)
  have hL := j135 (c := c) hN (by simp) (SL_raw hc _ _ _) h1
  generalize IntKind.i64.wrap (frE c * ((N + 1 : Nat) : Int)) = vars at *
  generalize rawC c (frE c) N begun = R at *
  obtain ⟨n, l, e, ho⟩ := j137 c N vars R
  rw [ho] at hL ⊢
  have hn := jqf l
  unfold cC at hL hR
  unfold clV at hL ⊢
  simp only [ciV, LI] at hL hR ⊢
  generalize (l.map fun l => LI l) = L at *
  refine jpc (fn := q1q) (s := ?s2) rfl rfl (q6r_ ?h2) ?r2
  case h2 => simp [q6r, unA8, hR, hL]; rfl
  case r2 => simp [finish, results, q1q, resOfs, resOf, St.cellsAt, resOk, hn]
 ·rw [if_neg h0]
  generalize readyE c steps begun = e at *
  unfold cC at hR
  simp only [ciV, LI] at hR ⊢
  refine jpc (fn := q1q) (s := ?s3) rfl rfl (q6r_ ?h3) ?r3
  case h3 => simp [q6r, unA8, hR, h0]; rfl
  case r3 => simp [finish, results, q1q, resOfs, resOf, St.cellsAt, resOk, clV]
end
end Go.Lw
end

/-! BlastChecks: the law answers true. -/
section
namespace Go.Lw
open Go
theorem j13i (p : Int → Bool) (l : List Int) : (noNeg l).all p = l.all fun n => n == -1 || p n := by
 induction l with
 | nil => rfl
 | cons a l ih =>
  simp only [noNeg] at ih ⊢
  rw [List.filter_cons, List.all_cons, ← ih]
  cases h : a == -1 with
  | true => simp [bne, h]
  | false => simp [bne, h]
section
variable {gh : List GObj}
abbrev ciBox (ins : Int) (G : List PV) (inp st : Int) (A B' C D : List Int) : List PV := [I ins, .sl false 2 G, I inp, I st, LI A, LI B', LI C, LI D]
theorem jx9 {ins : Int} {G : List PV} {inp st : Int} {A B' C D : List Int} {p : Int → Bool} (hp : ∀ n, callL pg 3 [.agg [I ins, .sl false 2 G], I n] gh = some (B (p n), gh)) (hs : Sz A.length) : ∀ k i, i + k = A.length →
  runL pg q4t ⟨[(1, .ptr false 0 0), (4, I (i : Nat))], [ciBox ins G inp st A B' C D], gh⟩ =
   if ((A.drop i).all fun n => n == -1 || p n) = true then some (.normal, ⟨[(1, .ptr false 0 0)], [ciBox ins G inp st A B' C D], gh⟩) else some (.ret, ⟨[(2, I 5)], [], gh⟩)
 | 0, i, h => by
  have hlt : ¬ i < A.length := by omega
  rw [List.drop_eq_nil_of_le (by omega)]
  refine (jpp (s1 := ?s1) (q1u_ ?h1)).trans ?r1
  case h1 => simp [q1u, hlt]; rfl
  case r1 => simp [keep, stays]
 | k + 1, i, h => by
  have hlt : i < A.length := by omega
  have hx : (A.map I)[i]? = some (I A[i]) := by simp [hlt]
  have hn := hp A[i]
  have hw : IntKind.i64.wrap ((i : Int) + 1) = ((i + 1 : Nat) : Int) := jq0 (by simp only [Sz] at hs ⊢; omega)
  have ih := jx9 (inp := inp) (st := st) (B' := B') (C := C) (D := D) hp hs k (i + 1) (by omega)
  rw [List.drop_eq_getElem_cons hlt, List.all_cons]
  simp only [ciBox, LI] at ih ⊢
  generalize ((A.drop (i + 1)).all fun n => n == -1 || p n) = rest at *
  generalize A[i] = x at *
  have hltL : i < (A.map I).length := by simpa using hlt
  generalize A.map I = L at *
  have hx2 : L[i] = I x := by rw [List.getElem?_eq_getElem hltL] at hx; exact Option.some.inj hx
  obtain ⟨u, hu⟩ : ∃ u : Int, ((i + 1 : Nat) : Int) = u := ⟨_, rfl⟩
  rw [hu] at hw ih
  by_cases hm : x = -1
  ·have hb : (x == -1 || p x) = true := by simp [hm]
   rw [hb, Bool.true_and]
   refine jpj (q1u_ ?h2) ih
   case h2 => simp [q1u, hltL, hx2, hm, hw]
  ·cases hq : p x with
   | true =>
    rw [hq] at hn
    have hb : (x == -1 || true) = true := by simp
    rw [hb, Bool.true_and]
    refine jpj (q1u_ ?h3) ih
    case h3 => simp [q1u, hltL, hx2, hm, hw, hn]
   | false =>
    rw [hq] at hn
    have hb : (x == -1 || false) = false := by simp [hm]
    rw [hb, Bool.false_and, if_neg (by decide)]
    refine lp_ret (q1u_ ?h4)
    case h4 => simp [q1u, hltL, hx2, hm, hn]
theorem j13j (c : Ci) (hr : RA c.ands) (hs : (c.inits.length + c.nexts.length + c.bads.length + c.holds.length) * 8 ≤ maxBytes) : callL pg 213 [ciV c] gh = some (I (ciE c), gh) := by
 have hm : maxBytes = 140737488355328 := rfl
 obtain ⟨ins, ands, inp, st, A, B', C, D⟩ := c
 simp only at hr hs
 have hC := j12j (ins := ins) (gh := gh) hr
 have fin : ∀ (e : Int) (s : St), s = ⟨[(2, I e)], [], gh⟩ → runL pg q4u ⟨[(0, .agg [I ins, .sl false 2 (ands.map andV), I inp, I st, LI A, LI B', LI C, LI D])], [], gh⟩ = some (.ret, s) → callL pg 213 [.agg [I ins, .sl false 2 (ands.map andV), I inp, I st, LI A, LI B', LI C, LI D]] gh = some (I e, gh) := by
  intro e s hs' hrun
  subst hs'
  refine jpc (fn := q4v) rfl rfl hrun ?_
  simp [finish, results, q4v, resOfs, resOf, resOk, get]
 unfold ciE
 simp only [ciV]
 by_cases he : chkE ins ands = 0
 ·rw [if_pos he]
  rw [he] at hC
  have hz := jto he
  have hL := fun (lits : List Int) (hs : Sz lits.length) => j12n (gh := gh) (lits := lits) hz.1 hz.2.1 hs
  have h1L := fun (n : Int) => jwc (gh := gh) hz.1 hz.2.1 n
  rw [j13i]
  simp only [graphV] at hC hL h1L
  generalize isLit ins ands = p at *
  generalize ands.map andV = G at *
  by_cases h1 : inp < 0
  ·rw [if_pos h1]
   refine fin 4 _ rfl (qf_ ?h1)
   case h1 => simp [qf, hC, h1]
  rw [if_neg h1]
  by_cases h2 : st < 0
  ·rw [if_pos h2]
   refine fin 4 _ rfl (qf_ ?h2)
   case h2 => simp [qf, hC, h1, h2]
  rw [if_neg h2]
  by_cases h3 : IntKind.i64.wrap (inp + st) = ins
  ·rw [if_pos h3]
   by_cases h4 : (A.length : Int) = st
   ·rw [if_pos h4]
    by_cases h5 : (B'.length : Int) = st
    ·rw [if_pos h5]
     have hl := jx9 (inp := inp) (st := st) (B' := B') (C := C) (D := D) (A := A) h1L (by simp only [Sz]; omega) A.length 0 (by omega)
     have hB := hL B' (by simp only [Sz]; omega)
     have hC' := hL C (by simp only [Sz]; omega)
     have hD := hL D (by simp only [Sz]; omega)
     simp only [List.drop_zero, Int.natCast_zero, ciBox, LI] at hl hB hC' hD
     generalize (A.all fun n => n == -1 || p n) = a at *
     generalize B'.all p = b at *
     generalize C.all p = c at *
     generalize D.all p = d at *
     simp only [LI] at *
     have hk : runL pg q29 ⟨[(1, .ptr false 0 0)], [[I ins, .sl false 2 G, I inp, I st, .sl false 1 (A.map I), .sl false 1 (B'.map I), .sl false 1 (C.map I), .sl false 1 (D.map I)]], gh⟩ = some (.ret, ⟨[(2, I (if (b && (c && d)) = true then 0 else 5))], [], gh⟩) := by
      refine q1v_ ?_
      cases b
      ·simp [q1v, hB]
      ·cases c
       ·simp [q1v, hB, hC']
       ·cases d
        ·simp [q1v, hB, hC', hD]
        ·simp [q1v, hB, hC', hD]
     have hlA : (A.map I).length = A.length := List.length_map _
     have hlB : (B'.map I).length = B'.length := List.length_map _
     cases a with
     | true =>
      rw [if_pos rfl] at hl
      rw [Bool.true_and]
      have er : (if (b && (c && d)) = true then 0 else 5 : Int) = if (b && (c && d)) = true then (0 : Int) else 5 := rfl
      generalize (if (b && (c && d)) = true then (0 : Int) else 5) = r at *
      refine fin r _ rfl (qf_ ?h3)
      case h3 => simp [qf, hC, h1, h2, h3, h4, h5, hl, hk]
     | false =>
      rw [if_neg (by decide)] at hl
      rw [Bool.false_and, if_neg (by decide)]
      refine fin 5 _ rfl (qf_ ?h4)
      case h4 => simp [qf, hC, h1, h2, h3, h4, h5, hl]
    ·rw [if_neg h5]
     refine fin 1 _ rfl (qf_ ?h5)
     case h5 => simp [qf, hC, h1, h2, h3, h4, h5]
   ·rw [if_neg h4]
    refine fin 1 _ rfl (qf_ ?h6)
    case h6 => simp [qf, hC, h1, h2, h3, h4]
  ·rw [if_neg h3]
   refine fin 4 _ rfl (qf_ ?h7)
   case h7 => simp [qf, hC, h1, h2, h3]
 ·rw [if_neg he]
  simp only [graphV] at hC
  generalize chkE ins ands = e at *
  generalize ands.map andV = G at *
  refine fin e _ rfl (qf_ ?h8)
  case h8 => simp [qf, hC, he]
end
def circuitC : List CS := [.int, .slice true 16 [.int, .int], .int, .int, .slice false 8 [.int], .slice false 8 [.int], .slice false 8 [.int], .slice false 8 [.int]]
theorem j13k {p : PV} (h : argTy (true, circuitC) p) : ∃ c : Ci, p = ciV c ∧ RA c.ands := by
 obtain ⟨ps, rfl, hp⟩ := j116 h
 obtain ⟨_, _, rfl, g0, hp⟩ := jpz hp
 obtain ⟨_, _, rfl, g1, hp⟩ := jpz hp
 obtain ⟨_, _, rfl, g2, hp⟩ := jpz hp
 obtain ⟨_, _, rfl, g3, hp⟩ := jpz hp
 obtain ⟨_, _, rfl, g4, hp⟩ := jpz hp
 obtain ⟨_, _, rfl, g5, hp⟩ := jpz hp
 obtain ⟨_, _, rfl, g6, hp⟩ := jpz hp
 obtain ⟨_, _, rfl, g7, hp⟩ := jpz hp
 obtain rfl := js7 hp
 obtain ⟨ins, rfl, -⟩ := jqn g0
 obtain ⟨xs, rfl, hb, hx⟩ := jwf g1
 obtain ⟨ands, hr, rfl⟩ := jwg hx
 obtain ⟨a, rfl, -⟩ := jqn g2
 obtain ⟨b, rfl, -⟩ := jqn g3
 obtain ⟨l1, rfl, -⟩ := jse (p := _) (show argTy (false, [.slice false 8 [.int]]) _ from ⟨g4, trivial⟩)
 obtain ⟨l2, rfl, -⟩ := jse (p := _) (show argTy (false, [.slice false 8 [.int]]) _ from ⟨g5, trivial⟩)
 obtain ⟨l3, rfl, -⟩ := jse (p := _) (show argTy (false, [.slice false 8 [.int]]) _ from ⟨g6, trivial⟩)
 obtain ⟨l4, rfl, -⟩ := jse (p := _) (show argTy (false, [.slice false 8 [.int]]) _ from ⟨g7, trivial⟩)
 exact ⟨⟨ins, ands, a, b, l1, l2, l3, l4⟩, rfl, hr⟩
end Go.Lw
end

/-! Unrolling: what the document's CheckSteps and StepClauses come to. -/
section
namespace Go.Lw
open Go
section
variable {gh : List GObj}
theorem jxa {l : List Int} {n : Int} (hs : Sz l.length) : ∀ k i, i + k = l.length →
  runL pg q4b ⟨[(0, LI l), (1, I n), (5, I (i : Int))], [], gh⟩ = if n ∈ l.drop i then some (.ret, ⟨[(4, B true)], [], gh⟩) else some (.normal, ⟨[], [], gh⟩)
 | 0, i, h => by
  rw [List.drop_eq_nil_of_le (by omega), if_neg (by simp)]
  have hlt : ¬ i < l.length := by omega
  refine (jpp (s1 := ?s1) (q36_ ?h1)).trans ?r1
  case h1 => simp only [q36]; simp [hlt]; rfl
  case r1 => simp [keep]
 | k + 1, i, h => by
  have hlt : i < l.length := by omega
  have hltD : decide (i < l.length) = true := decide_eq_true hlt
  have e2 : IntKind.i64.wrap ((i : Int) + 1) = ((i + 1 : Nat) : Int) := jq0 (by simp only [Sz] at hs ⊢; omega)
  have hg : (l.map I)[i]? = some (I l[i]) := by simp [List.getElem?_eq_getElem hlt]
  have hrec := jxa (n := n) hs k (i + 1) (by omega)
  rw [List.drop_eq_getElem_cons hlt]
  generalize l[i] = a at *
  by_cases he : a = n
  ·rw [if_pos (by simp [he])]
   refine lp_ret (q36_ ?_)
   simp only [q36]
   simp [hltD, hg, he, -List.getElem?_map]
  ·have hmem : (n ∈ a :: l.drop (i + 1)) = (n ∈ l.drop (i + 1)) := by
    have : ¬ n = a := fun e => he e.symm
    simp [this]
   simp only [hmem]
   refine jpj (s1 := ⟨[(0, LI l), (1, I n), (5, I ((i + 1 : Nat) : Int))], [], gh⟩) (q36_ ?_) hrec
   simp only [q36]
   simp [hltD, hg, he, e2, -List.getElem?_map]
theorem j13l {l : List Int} {n : Int} (hs : Sz l.length) : callL pg 45 [LI l, I n] gh = some (B (decide (n ∈ l)), gh) := by
 have h := jxa (gh := gh) (n := n) hs l.length 0 (by omega)
 rw [List.drop_zero] at h
 simp only [Int.natCast_zero] at h
 by_cases hn : n ∈ l
 ·rw [if_pos hn] at h
  rw [decide_eq_true hn]
  refine jpc (fn := q1c) (s := ⟨[(4, B true)], [], gh⟩) rfl rfl (q6v_ ?h1) ?r1
  case h1 =>
   simp only [LI] at *
   generalize l.map I = L at *
   simp [q6v, h]
  case r1 => simp [finish, results, q1c, resOfs, resOf, resOk]
 ·rw [if_neg hn] at h
  rw [decide_eq_false hn]
  have hk := qoz_ (pg := pg) (gh := gh) (e := .ret) (s := ⟨[(4, B false)], [], gh⟩) rfl
  refine jpc (fn := q1c) (s := ⟨[(4, B false)], [], gh⟩) rfl rfl (q6v_ ?h2) ?r2
  case h2 =>
   simp only [LI] at *
   generalize l.map I = L at *
   simp [q6v, h, hk]
  case r2 => simp [finish, results, q1c, resOfs, resOf, resOk]
variable {c : Ci} {begun : Bool}
theorem jxb (hc : CiT c) : ∀ k i, i + k = c.inits.length →
  runL pg q1h ⟨[(2, B begun), (3, .ptr false 0 0), (7, I 0), (8, I (i : Int))], [cC c], gh⟩ =
   some (.normal, ⟨[(7, I (if begun = true ∧ (c.inits.drop i).any (fun x => decide (1 < x)) = true then 7 else 0))], [], gh⟩)
 | 0, i, h => by
  have hlt : ¬ i < c.inits.length := by omega
  rw [List.drop_eq_nil_of_le (by omega), if_neg (by simp)]
  refine (jpp (s1 := ?s1) (qg_ ?h1)).trans ?r1
  case h1 => simp [qg, cC, hlt]; rfl
  case r1 => simp [keep, stays]
 | k + 1, i, h => by
  have hlt : i < c.inits.length := by omega
  have hl := hc.inits
  have hltD : decide (i < c.inits.length) = true := decide_eq_true hlt
  have e2 : IntKind.i64.wrap ((i : Int) + 1) = ((i + 1 : Nat) : Int) := by rw [jph (by omega) (by omega)]; omega
  have hx : (c.inits.map I)[i]? = some (I c.inits[i]) := by simp [List.getElem?_eq_getElem hlt]
  have hLl : (c.inits.map I).length = c.inits.length := List.length_map _
  have hrec := jxb hc k (i + 1) (by omega)
  have hk : ∀ e : Int, runL pg qw ⟨[(2, B begun), (3, .ptr false 0 0), (7, I e), (8, I (i : Int))], [cC c], gh⟩ = some (.normal, ⟨[(2, B begun), (3, .ptr false 0 0), (7, I e), (8, I ((i + 1 : Nat) : Int))], [cC c], gh⟩) := fun e => by
   refine qbd_ ?_
   simp only [qbd, e2, cC]
  rw [List.drop_eq_getElem_cons hlt, List.any_cons]
  generalize c.inits[i] = x at *
  have hex : (begun = true ∧ (decide (1 < x)) = true) ∨ ¬ (begun = true ∧ (decide (1 < x)) = true) := Classical.em _
  rcases hex with ⟨rfl, h1⟩ | h1
  ·rw [if_pos ⟨rfl, by rw [h1]; rfl⟩]
   have h1' : 1 < x := of_decide_eq_true h1
   have hk7 := hk 7
   unfold cC at hk7 ⊢
   simp only [LI] at hk7 ⊢
   refine jpj (s1 := ⟨[(2, B true), (3, .ptr false 0 0), (7, I 7), (8, I ((i + 1 : Nat) : Int))], [[I c.ins, .sl false 2 (c.ands.map andV), I c.inp, I c.st, .sl false 1 (c.inits.map I), .sl false 1 (c.nexts.map I), .sl false 1 (c.bads.map I), .sl false 1 (c.holds.map I)]], gh⟩) (qg_ ?h2) ?r2
   case h2 => simp [qg, hltD, hLl, hx, h1', hk7, show Nat.ble 1 1 = true from rfl, -List.getElem?_map]
   case r2 =>
    refine (jpp (s1 := ⟨[(2, B true), (3, .ptr false 0 0), (7, I 7), (8, I ((i + 1 : Nat) : Int)), (26, B false)], [[I c.ins, .sl false 2 (c.ands.map andV), I c.inp, I c.st, .sl false 1 (c.inits.map I), .sl false 1 (c.nexts.map I), .sl false 1 (c.bads.map I), .sl false 1 (c.holds.map I)]], gh⟩) (qg_ ?h3)).trans ?r3
    case h3 =>
     have : decide ((((i + 1 : Nat) : Int)) < ((c.inits.map I).length : Int)) = true ∨ decide ((((i + 1 : Nat) : Int)) < ((c.inits.map I).length : Int)) = false := by cases decide ((((i + 1 : Nat) : Int)) < ((c.inits.map I).length : Int)) <;> simp
     rcases this with hq | hq
     ·simp only [qg, degr, isC_sl, jsd, hq, jr1, jpv, show ((7 : Int) == 0) = false from rfl]
     ·simp only [qg, degr, isC_sl, jsd, hq, jr1, jpv]
    case r3 => simp [keep, stays]
  ·have e3 : (begun = true ∧ (decide (1 < x) || (c.inits.drop (i + 1)).any fun x => decide (1 < x)) = true) ↔ (begun = true ∧ (c.inits.drop (i + 1)).any (fun x => decide (1 < x)) = true) := by
    constructor
    ·rintro ⟨a, b⟩
     refine ⟨a, ?_⟩
     rcases Bool.or_eq_true_iff.1 b with b | b
     ·exact absurd ⟨a, b⟩ h1
     ·exact b
    ·rintro ⟨a, b⟩; exact ⟨a, by rw [b, Bool.or_true]⟩
   simp only [propext e3]
   have hk0 := hk 0
   refine jpj (s1 := ⟨[(2, B begun), (3, .ptr false 0 0), (7, I 0), (8, I ((i + 1 : Nat) : Int))], [cC c], gh⟩) (qg_ ?h4) hrec
   case h4 =>
    unfold cC at hk0 ⊢
    simp only [LI] at hk0 ⊢
    cases begun with
    | true =>
     have h1' : ¬ 1 < x := fun h => h1 ⟨rfl, decide_eq_true h⟩
     simp [qg, hltD, hLl, hx, h1', hk0, show Nat.ble 1 1 = true from rfl, -List.getElem?_map]
    | false => simp [qg, hltD, hLl, hx, hk0, show Nat.ble 1 1 = true from rfl, -List.getElem?_map]
theorem j13m {steps : Int} (hr : RA c.ands) (hc : CiT c) : callL pg 330 [ciV c, I steps, B begun] gh = some (I (readyE c steps begun), gh) := by
 have hC := j13j (gh := gh) c hr (bulk8 hc)
 have hl := jxb (begun := begun) (gh := gh) hc c.inits.length 0 (by omega)
 have hB := jqg steps 0 40 gh
 rw [List.drop_zero] at hl
 unfold readyE
 have h3 : ∀ e : Int, runL pg q2a ⟨[(7, I e)], [], gh⟩ = some (.ret, ⟨[(6, I e)], [], gh⟩) := fun e => qp8_ rfl
 have hstop : ∀ e : Int, e ≠ 0 → runL pg q1h ⟨[(2, B begun), (3, .ptr false 0 0), (7, I e), (8, I 0)], [cC c], gh⟩ = some (.normal, ⟨[(7, I e)], [], gh⟩) := fun e he => by
  have hb : (e == 0) = false := by simpa using he
  unfold cC
  simp only [LI]
  have hex : decide ((0 : Int) < ((c.inits.map I).length : Int)) = true ∨ decide ((0 : Int) < ((c.inits.map I).length : Int)) = false := by cases decide ((0 : Int) < ((c.inits.map I).length : Int)) <;> simp
  refine (jpp (s1 := ⟨[(2, B begun), (3, .ptr false 0 0), (7, I e), (8, I 0), (26, B false)], [[I c.ins, .sl false 2 (c.ands.map andV), I c.inp, I c.st, .sl false 1 (c.inits.map I), .sl false 1 (c.nexts.map I), .sl false 1 (c.bads.map I), .sl false 1 (c.holds.map I)]], gh⟩) (qg_ ?h1)).trans ?r1
  case h1 =>
   rcases hex with hq | hq
   ·simp only [qg, degr, isC_sl, jsd, hq, jr1, jpv, hb]
   ·simp only [qg, degr, isC_sl, jsd, hq, jr1, jpv]
  case r1 => simp [keep, stays]
 have fin : ∀ (e : Int) (s : St), s = ⟨[(6, I e)], [], gh⟩ → runL pg q4w ⟨[(0, ciV c), (1, I steps), (2, B begun)], [], gh⟩ = some (.ret, s) → callL pg 330 [ciV c, I steps, B begun] gh = some (I e, gh) := by
  intro e s hs hrun
  subst hs
  refine jpc (fn := q4x) rfl rfl hrun ?_
  simp [finish, results, q4x, resOfs, resOf, resOk, get]
 have k1 : ∀ e a : Int, runL pg q1h ⟨[(2, B begun), (3, .ptr false 0 0), (7, I e), (8, I 0)], [cC c], gh⟩ = some (.normal, ⟨[(7, I a)], [], gh⟩) → runL pg qx ⟨[(2, B begun), (3, .ptr false 0 0), (7, I e)], [cC c], gh⟩ = some (.ret, ⟨[(6, I a)], [], gh⟩) := fun e a h => by
  refine qbe_ ?_
  unfold cC at h
  simp only [LI] at h
  simp [qbe, h, h3]
 simp only [Int.natCast_zero] at hl
 generalize ciE c = e at *
 by_cases he : e = 0
 ·rw [if_pos he]
  subst he
  by_cases h1 : steps < 0
  ·rw [if_pos h1]
   have hb : decide ((0 : Int) ≤ steps ∧ steps ≤ 40) = false := decide_eq_false (by omega)
   rw [hb] at hB
   have hk := k1 3 3 (hstop 3 (by decide))
   unfold cC at hk
   simp only [ciV, LI] at hC hk fin ⊢
   refine fin 3 _ rfl (q23_ ?h1)
   case h1 => simp [q23, hC, hB, hk]
  rw [if_neg h1]
  by_cases h2 : 40 < steps
  ·rw [if_pos h2]
   have hb : decide ((0 : Int) ≤ steps ∧ steps ≤ 40) = false := decide_eq_false (by omega)
   rw [hb] at hB
   have hk := k1 3 3 (hstop 3 (by decide))
   unfold cC at hk
   simp only [ciV, LI] at hC hk fin ⊢
   refine fin 3 _ rfl (q23_ ?h2)
   case h2 => simp [q23, hC, hB, hk]
  rw [if_neg h2]
  have hb : decide ((0 : Int) ≤ steps ∧ steps ≤ 40) = true := decide_eq_true (by omega)
  rw [hb] at hB
  have hk := k1 _ _ hl
  generalize (if begun = true ∧ c.inits.any (fun x => decide (1 < x)) = true then (7 : Int) else 0) = a at *
  unfold cC at hk
  simp only [ciV, LI] at hC hk fin ⊢
  refine fin a _ rfl (q23_ ?h3)
  case h3 => simp [q23, hC, hB, hk]
 ·rw [if_neg he]
  have hk := k1 e e (hstop e he)
  unfold cC at hk
  simp only [ciV, LI] at hC hk fin ⊢
  refine fin e _ rfl (q23_ ?h5)
  case h5 => simp [q23, hC, he, hk]
end
abbrev outO (vars : Int) (L : List PV) : GObj := .cells [I vars, .sl true 1 L]
def V (gh : List GObj) (c : Ci) (f : Int) (x : GObj) : List GObj := gh ++ [.cells (cC c), .cells [I f], x]
section
variable {gh : List GObj} {c : Ci} {f vars : Int} {N : Nat} {begun b3 : Bool} {x y : GObj}
theorem V_c : (V gh c f x)[gh.length]? = some (.cells (cC c)) := by simp [V]
theorem V_f : (V gh c f x)[gh.length + 1]? = some (.cells [I f]) := by simp [V]
theorem V_o : (V gh c f x)[gh.length + 2]? = some x := by simp [V]
theorem V_set : (V gh c f x).set (gh.length + 2) y = V gh c f y := by simp [V]
theorem V_rt {L : List PV} {o b : Bool} : setRt (V gh c f (.cells [I vars, .sl o 1 L])) (gh.length + 2) 1 b = some (V gh c f (.cells [I vars, .sl b 1 L])) := by
 simp [setRt, V, spliceAt]
theorem V_rtP {L : List PV} {r : PV} {cl : List GObj → Option (PV × List GObj)} (h : ∀ o, cl (V gh c f (.cells [I vars, .sl o 1 L])) = some (r, V gh c f (.cells [I vars, .sl o 1 L]))) :
  rtP cl (V gh c f (.cells [I vars, .sl false 1 L])) (gh.length + 2) (0 + 1) :=
 ⟨_, _, _, _, V_rt, V_rt, h true, h false, rfl, rfl, rfl, V_rt, V_rt⟩
theorem fits24 {n : Nat} (h : n ≤ 1000000000) : n * 24 ≤ maxBytes := by
 have : maxBytes = 140737488355328 := rfl
 omega
theorem jr6 {cls : List (List Int)} {l : List Int} (hs : cls.length ≤ 900000000) : callL pg 338 [LI l, .ptr true (gh.length + 2) 0] (V gh c f (outO vars (LLI cls))) = some (.tup [], V gh c f (outO vars (LLI (cls ++ [l])))) := by
 have hmx := fits24 (n := cls.length + 1) (by omega)
 have hn := jqf cls
 have h1 : runL pg q56 ⟨[(0, LI l), (1, .ptr true (gh.length + 2) 0)], [], V gh c f (outO vars (LLI cls))⟩ = some (.normal, ⟨[], [], V gh c f (outO vars (LLI (cls ++ [l])))⟩) := by
  refine qbq_ ?_
  have e3 : LLI (cls ++ [l]) = LLI cls ++ [LI l] := by simp [LLI]
  have l1 : (LLI cls).length = cls.length := by simp [LLI]
  rw [e3]
  generalize LLI cls = C at *
  rw [← l1] at hmx
  simp [qbq, V_o, V_set, hmx, spliceAt]
 rw [jqd (fn := q57) rfl rfl h1]
 simp [finish, results, q57, resOfs, resOk]
theorem jxc {t i : Int} : callL pg 339 [I t, I i, .ptr true (gh.length + 1) 0, .ptr true gh.length 0] (V gh c f x) = some (I (stE f c.inp t i), V gh c f x) := by
 refine jpc (fn := q58) (s := ?s1) rfl rfl (qbr_ ?h1) ?r1
 case h1 => simp [qbr, V_f, V_c, cC]; rfl
 case r1 => simp [finish, results, q58, resOfs, resOf, resOk, stE]
theorem sc_l1 (hc : CiS c) (hN : N ≤ 40) : ∀ k i (cls : List (List Int)), i + k = N + 1 → cls.length + 3000000 * k ≤ 800000000 →
  runL pg q4y ⟨[(1, I (N : Int)), (2, B begun), (3, B b3), (4, .ptr true gh.length 0), (8, .ptr false 0 0), (9, .ptr true (gh.length + 1) 0), (10, .ptr true (gh.length + 2) 0), (11, .fn 338 [.ptr true (gh.length + 2) 0]), (12, .fn 339 [.ptr true (gh.length + 1) 0, .ptr true gh.length 0]), (13, I (i : Int))], [[I 0, .sl true 1 []]], V gh c f (outO vars (LLI (cls)))⟩ = some (.normal, ⟨[(1, I (N : Int)), (2, B begun), (3, B b3), (4, .ptr true gh.length 0), (8, .ptr false 0 0), (9, .ptr true (gh.length + 1) 0), (10, .ptr true (gh.length + 2) 0), (11, .fn 338 [.ptr true (gh.length + 2) 0]), (12, .fn 339 [.ptr true (gh.length + 1) 0, .ptr true gh.length 0])], [[I 0, .sl true 1 []]], V gh c f (outO vars (LLI (cls ++ upto (andsG c f) i k)))⟩)
 | 0, i, cls, h, _ => by
  have hlt : ¬ (i : Int) ≤ (N : Int) := by omega
  refine (jpp (s1 := ?s1) (q77_ ?h1)).trans ?r1
  case h1 => simp [q77, hlt]; rfl
  case r1 => simp [keep, upto, stays]
 | k + 1, i, cls, h, hs => by
  have hlt : (i : Int) ≤ (N : Int) := by omega
  have e2 : IntKind.i64.wrap ((i : Int) + 1) = ((i + 1 : Nat) : Int) := by rw [jph (by omega) (by omega)]; omega
  have hA := fun o => j13a (gh := V gh c f (.cells [I vars, .sl o 1 (LLI cls)])) (ins := c.ins) (more := IntKind.i64.wrap ((i : Int) * f)) hc.ands
  have hlen : (andsG c f i).length = 3 * c.ands.length := jr2 _ _ _ _
  have ha := hc.ands
  have hrec := sc_l1 hc hN k (i + 1) (cls ++ andsG c f i) (by omega) (by rw [List.length_append]; omega)
  rw [upto, ← List.append_assoc]
  refine jpj (q77_ (s := ⟨[(1, I (N : Int)), (2, B begun), (3, B b3), (4, .ptr true gh.length 0), (8, .ptr false 0 0), (9, .ptr true (gh.length + 1) 0), (10, .ptr true (gh.length + 2) 0), (11, .fn 338 [.ptr true (gh.length + 2) 0]), (12, .fn 339 [.ptr true (gh.length + 1) 0, .ptr true gh.length 0]), (13, I ((i + 1 : Nat) : Int))], [[I 0, .sl true 1 []]], V gh c f (outO vars (LLI (cls ++ andsG c f i)))⟩) ?h2) hrec
  case h2 =>
   have hmx := fits24 (n := cls.length + (andsG c f i).length) (by omega)
   unfold andsG at *
   have e3 : LLI (cls ++ andsC c.ins (IntKind.i64.wrap ((i : Int) * f)) 0 c.ands) = LLI cls ++ LLI (andsC c.ins (IntKind.i64.wrap ((i : Int) * f)) 0 c.ands) := by simp [LLI]
   have l1 : (LLI cls).length = cls.length := by simp [LLI]
   have l2 : (LLI (andsC c.ins (IntKind.i64.wrap ((i : Int) * f)) 0 c.ands)).length = (andsC c.ins (IntKind.i64.wrap ((i : Int) * f)) 0 c.ands).length := by simp [LLI]
   rw [e3]
   generalize LLI (andsC c.ins (IntKind.i64.wrap ((i : Int) * f)) 0 c.ands) = M at *
   generalize LLI cls = C at *
   rw [← l1, ← l2] at hmx
   unfold graphV at hA
   have hrt := fun (x : Option (IExit × St)) => jw3 (x := x) (V_rtP hA)
   have hA0 := hA false
   simp [q77, hlt, V_o, V_set, V_c, V_f, cC, hA0, hrt, hmx, e2, spliceAt]
theorem sc_l3 (hc : CiS c) (hst : c.st = (c.nexts.length : Int)) (hnn : ∀ x ∈ c.nexts, 0 ≤ x) {t : Nat} : ∀ k i (cls : List (List Int)), i + k = c.nexts.length → cls.length + 2 * k ≤ 800000000 →
  runL pg q4z ⟨[(1, I (N : Int)), (2, B begun), (3, B b3), (4, .ptr true gh.length 0), (8, .ptr false 0 0), (9, .ptr true (gh.length + 1) 0), (10, .ptr true (gh.length + 2) 0), (11, .fn 338 [.ptr true (gh.length + 2) 0]), (12, .fn 339 [.ptr true (gh.length + 1) 0, .ptr true gh.length 0]), (14, I (t : Int)), (15, I (i : Int))], [[I 0, .sl true 1 []]], V gh c f (outO vars (LLI (cls)))⟩ = some (.normal, ⟨[(1, I (N : Int)), (2, B begun), (3, B b3), (4, .ptr true gh.length 0), (8, .ptr false 0 0), (9, .ptr true (gh.length + 1) 0), (10, .ptr true (gh.length + 2) 0), (11, .fn 338 [.ptr true (gh.length + 2) 0]), (12, .fn 339 [.ptr true (gh.length + 1) 0, .ptr true gh.length 0]), (14, I (t : Int))], [[I 0, .sl true 1 []]], V gh c f (outO vars (LLI (cls ++ bindC f c.inp t i (c.nexts.drop i))))⟩)
 | 0, i, cls, h, _ => by
  have hlt : ¬ (i : Int) < c.st := by omega
  rw [List.drop_eq_nil_of_le (by omega)]
  refine (jpp (s1 := ?s1) (q24_ ?h1)).trans ?r1
  case h1 => simp [q24, hlt, V_c, cC]; rfl
  case r1 => simp [keep, bindC, stays]
 | k + 1, i, cls, h, hs => by
  have hlt : i < c.nexts.length := by omega
  have hltI : (i : Int) < c.st := by omega
  have hli := hc.nexts
  have e2 : IntKind.i64.wrap ((i : Int) + 1) = ((i + 1 : Nat) : Int) := by rw [jph (by omega) (by omega)]; omega
  have hx : (c.nexts.map I)[i]? = some (I c.nexts[i]) := by simp [List.getElem?_eq_getElem hlt]
  have h0 := hnn _ (List.getElem_mem hlt)
  have hrec := fun cls' h' => sc_l3 (t := t) hc hst hnn k (i + 1) cls' (by omega) h'
  have hbl := jtu f c.inp t i c.nexts[i]
  have hk : ∀ G : List GObj, runL pg qy ⟨[(1, I (N : Int)), (2, B begun), (3, B b3), (4, .ptr true gh.length 0), (8, .ptr false 0 0), (9, .ptr true (gh.length + 1) 0), (10, .ptr true (gh.length + 2) 0), (11, .fn 338 [.ptr true (gh.length + 2) 0]), (12, .fn 339 [.ptr true (gh.length + 1) 0, .ptr true gh.length 0]), (14, I (t : Int)), (15, I (i : Int))], [[I 0, .sl true 1 []]], G⟩ = some (.normal, ⟨[(1, I (N : Int)), (2, B begun), (3, B b3), (4, .ptr true gh.length 0), (8, .ptr false 0 0), (9, .ptr true (gh.length + 1) 0), (10, .ptr true (gh.length + 2) 0), (11, .fn 338 [.ptr true (gh.length + 2) 0]), (12, .fn 339 [.ptr true (gh.length + 1) 0, .ptr true gh.length 0]), (14, I (t : Int)), (15, I ((i + 1 : Nat) : Int))], [[I 0, .sl true 1 []]], G⟩) := fun G => by
   refine qbf_ ?_
   simp [qbf, e2]
  rw [List.drop_eq_getElem_cons hlt, bindC, ← List.append_assoc]
  refine jpj (q24_ (s := ⟨[(1, I (N : Int)), (2, B begun), (3, B b3), (4, .ptr true gh.length 0), (8, .ptr false 0 0), (9, .ptr true (gh.length + 1) 0), (10, .ptr true (gh.length + 2) 0), (11, .fn 338 [.ptr true (gh.length + 2) 0]), (12, .fn 339 [.ptr true (gh.length + 1) 0, .ptr true gh.length 0]), (14, I (t : Int)), (15, I ((i + 1 : Nat) : Int))], [[I 0, .sl true 1 []]], V gh c f (outO vars (LLI (cls ++ bind1 f c.inp t i c.nexts[i])))⟩) ?h2) (hrec _ (by rw [List.length_append]; omega))
  case h2 =>
   generalize c.nexts[i] = x at *
   unfold bind1
   have hbit := fun y => jxc (gh := gh) (c := c) (f := f) (x := y) (t := (t : Int)) (i := (i : Int))
   generalize stE f c.inp t i = n at *
   by_cases x0 : x = 0
   ·subst x0
    rw [if_pos (by decide), if_neg (by decide)]
    have ha := jr6 (gh := gh) (c := c) (f := f) (vars := vars) (cls := cls) (l := [negI n]) (by omega)
    simp only [LI, List.map_cons, List.map_nil, negI] at ha ⊢
    generalize LLI (cls ++ [[IntKind.i64.wrap (-n)]]) = C1 at *
    generalize LLI cls = C at *
    simp [q24, hltI, hx, V_c, cC, hbit, ha, hk, show Nat.ble 1 1 = true from rfl, -List.getElem?_map]
   by_cases x1 : x = 1
   ·subst x1
    rw [if_pos (by decide), if_pos rfl]
    have ha := jr6 (gh := gh) (c := c) (f := f) (vars := vars) (cls := cls) (l := [n]) (by omega)
    simp only [LI, List.map_cons, List.map_nil] at ha ⊢
    generalize LLI (cls ++ [[n]]) = C1 at *
    generalize LLI cls = C at *
    simp [q24, hltI, hx, V_c, cC, hbit, ha, hk, show Nat.ble 1 1 = true from rfl, -List.getElem?_map]
   ·rw [if_neg (by omega)]
    have hN' := fun G => Num_eq x (IntKind.i64.wrap (IntKind.i64.wrap ((t : Int) - 1) * f)) G
    generalize numE x (IntKind.i64.wrap (IntKind.i64.wrap ((t : Int) - 1) * f)) = A at *
    have ha1 := jr6 (gh := gh) (c := c) (f := f) (vars := vars) (cls := cls) (l := [negI n, A]) (by omega)
    have ha2 := jr6 (gh := gh) (c := c) (f := f) (vars := vars) (cls := cls ++ [[negI n, A]]) (l := [n, negI A]) (by simp; omega)
    rw [List.append_assoc] at ha2
    simp only [LI, List.map_cons, List.map_nil, negI, List.cons_append, List.nil_append] at ha1 ha2 ⊢
    generalize LLI (cls ++ [[IntKind.i64.wrap (-n), A], [n, IntKind.i64.wrap (-A)]]) = C2 at *
    generalize LLI (cls ++ [[IntKind.i64.wrap (-n), A]]) = C1 at *
    generalize LLI cls = C at *
    simp [q24, hltI, hx, x0, x1, V_c, V_f, cC, hbit, hN', ha1, ha2, hk, show Nat.ble 1 1 = true from rfl, -List.getElem?_map]
theorem sc_l2 (hc : CiS c) (hN : N ≤ 40) (hst : c.st = (c.nexts.length : Int)) (hnn : ∀ x ∈ c.nexts, 0 ≤ x) : ∀ k i (cls : List (List Int)), i + k = N + 1 → cls.length + 3000000 * k ≤ 800000000 →
  runL pg q50 ⟨[(1, I (N : Int)), (2, B begun), (3, B b3), (4, .ptr true gh.length 0), (8, .ptr false 0 0), (9, .ptr true (gh.length + 1) 0), (10, .ptr true (gh.length + 2) 0), (11, .fn 338 [.ptr true (gh.length + 2) 0]), (12, .fn 339 [.ptr true (gh.length + 1) 0, .ptr true gh.length 0]), (14, I (i : Int))], [[I 0, .sl true 1 []]], V gh c f (outO vars (LLI (cls)))⟩ = some (.normal, ⟨[(1, I (N : Int)), (2, B begun), (3, B b3), (4, .ptr true gh.length 0), (8, .ptr false 0 0), (9, .ptr true (gh.length + 1) 0), (10, .ptr true (gh.length + 2) 0), (11, .fn 338 [.ptr true (gh.length + 2) 0]), (12, .fn 339 [.ptr true (gh.length + 1) 0, .ptr true gh.length 0])], [[I 0, .sl true 1 []]], V gh c f (outO vars (LLI (cls ++ upto (bindG c f) i k)))⟩)
 | 0, i, cls, h, _ => by
  have hlt : ¬ (i : Int) ≤ (N : Int) := by omega
  refine (jpp (s1 := ?s1) (q78_ ?h1)).trans ?r1
  case h1 => simp [q78, hlt]; rfl
  case r1 => simp [keep, upto, stays]
 | k + 1, i, cls, h, hs => by
  have hlt : (i : Int) ≤ (N : Int) := by omega
  have hli := hc.nexts
  have e2 : IntKind.i64.wrap ((i : Int) + 1) = ((i + 1 : Nat) : Int) := by rw [jph (by omega) (by omega)]; omega
  have hlen : (bindG c f i).length ≤ 2 * c.nexts.length := jr5 _ _ _ _ _
  have hin := sc_l3 (gh := gh) (vars := vars) (f := f) (begun := begun) (b3 := b3) (N := N) (t := i) hc hst hnn c.nexts.length 0 cls (by omega) (by omega)
  have hrec := sc_l2 hc hN hst hnn k (i + 1) (cls ++ bindG c f i) (by omega) (by rw [List.length_append]; omega)
  have hk : ∀ G : List GObj, runL pg q2b ⟨[(1, I (N : Int)), (2, B begun), (3, B b3), (4, .ptr true gh.length 0), (8, .ptr false 0 0), (9, .ptr true (gh.length + 1) 0), (10, .ptr true (gh.length + 2) 0), (11, .fn 338 [.ptr true (gh.length + 2) 0]), (12, .fn 339 [.ptr true (gh.length + 1) 0, .ptr true gh.length 0]), (14, I (i : Int))], [[I 0, .sl true 1 []]], G⟩ = some (.normal, ⟨[(1, I (N : Int)), (2, B begun), (3, B b3), (4, .ptr true gh.length 0), (8, .ptr false 0 0), (9, .ptr true (gh.length + 1) 0), (10, .ptr true (gh.length + 2) 0), (11, .fn 338 [.ptr true (gh.length + 2) 0]), (12, .fn 339 [.ptr true (gh.length + 1) 0, .ptr true gh.length 0]), (14, I ((i + 1 : Nat) : Int))], [[I 0, .sl true 1 []]], G⟩) := fun G => by
   refine qbg_ ?_
   simp [qbg, e2]
  rw [List.drop_zero] at hin
  rw [upto, ← List.append_assoc]
  refine jpj (q78_ (s := ⟨[(1, I (N : Int)), (2, B begun), (3, B b3), (4, .ptr true gh.length 0), (8, .ptr false 0 0), (9, .ptr true (gh.length + 1) 0), (10, .ptr true (gh.length + 2) 0), (11, .fn 338 [.ptr true (gh.length + 2) 0]), (12, .fn 339 [.ptr true (gh.length + 1) 0, .ptr true gh.length 0]), (14, I ((i + 1 : Nat) : Int))], [[I 0, .sl true 1 []]], V gh c f (outO vars (LLI (cls ++ bindG c f i)))⟩) ?h2) hrec
  case h2 =>
   unfold bindG at *
   simp only [Int.natCast_zero] at hin
   generalize LLI (cls ++ bindC f c.inp (i : Int) 0 c.nexts) = C1 at *
   generalize LLI cls = C at *
   simp [q78, hlt, hin, hk, show Nat.ble 1 1 = true from rfl]
theorem jxd (f inp : Int) : ∀ (i : Nat) (l : List Int), initC f inp false i l = []
 | _, [] => rfl
 | i, x :: l => by rw [initC, jxd f inp (i + 1) l, if_neg (by simp)]; rfl
theorem sc_l4 (hc : CiS c) (hst : c.st = (c.inits.length : Int)) (hin : ∀ x ∈ c.inits, x ≤ 1) : ∀ k i (cls : List (List Int)), i + k = c.inits.length → cls.length + k ≤ 800000000 →
  runL pg q1j ⟨[(1, I (N : Int)), (2, B true), (3, B b3), (4, .ptr true gh.length 0), (8, .ptr false 0 0), (9, .ptr true (gh.length + 1) 0), (10, .ptr true (gh.length + 2) 0), (11, .fn 338 [.ptr true (gh.length + 2) 0]), (12, .fn 339 [.ptr true (gh.length + 1) 0, .ptr true gh.length 0]), (17, I (i : Int))], [[I 0, .sl true 1 []]], V gh c f (outO vars (LLI (cls)))⟩ = some (.normal, ⟨[(1, I (N : Int)), (3, B b3), (4, .ptr true gh.length 0), (8, .ptr false 0 0), (9, .ptr true (gh.length + 1) 0), (10, .ptr true (gh.length + 2) 0), (11, .fn 338 [.ptr true (gh.length + 2) 0]), (12, .fn 339 [.ptr true (gh.length + 1) 0, .ptr true gh.length 0])], [[I 0, .sl true 1 []]], V gh c f (outO vars (LLI (cls ++ initC f c.inp true i (c.inits.drop i))))⟩)
 | 0, i, cls, h, _ => by
  have hlt : ¬ (i : Int) < c.st := by omega
  rw [List.drop_eq_nil_of_le (by omega)]
  refine (jpp (s1 := ?s1) (qv_ ?h1)).trans ?r1
  case h1 => simp [qv, hlt, V_c, cC]; rfl
  case r1 => simp [keep, initC, stays]
 | k + 1, i, cls, h, hs => by
  have hlt : i < c.inits.length := by omega
  have hltI : (i : Int) < c.st := by omega
  have hli := hc.inits
  have e2 : IntKind.i64.wrap ((i : Int) + 1) = ((i + 1 : Nat) : Int) := by rw [jph (by omega) (by omega)]; omega
  have hx : (c.inits.map I)[i]? = some (I c.inits[i]) := by simp [List.getElem?_eq_getElem hlt]
  have h1 := hin _ (List.getElem_mem hlt)
  have hrec := fun cls' h' => sc_l4 hc hst hin k (i + 1) cls' (by omega) h'
  have hk : ∀ G : List GObj, runL pg q1i ⟨[(1, I (N : Int)), (2, B true), (3, B b3), (4, .ptr true gh.length 0), (8, .ptr false 0 0), (9, .ptr true (gh.length + 1) 0), (10, .ptr true (gh.length + 2) 0), (11, .fn 338 [.ptr true (gh.length + 2) 0]), (12, .fn 339 [.ptr true (gh.length + 1) 0, .ptr true gh.length 0]), (17, I (i : Int))], [[I 0, .sl true 1 []]], G⟩ = some (.normal, ⟨[(1, I (N : Int)), (2, B true), (3, B b3), (4, .ptr true gh.length 0), (8, .ptr false 0 0), (9, .ptr true (gh.length + 1) 0), (10, .ptr true (gh.length + 2) 0), (11, .fn 338 [.ptr true (gh.length + 2) 0]), (12, .fn 339 [.ptr true (gh.length + 1) 0, .ptr true gh.length 0]), (17, I ((i + 1 : Nat) : Int))], [[I 0, .sl true 1 []]], G⟩) := fun G => by
   refine qbh_ ?_
   simp [qbh, e2]
  rw [List.drop_eq_getElem_cons hlt, initC, ← List.append_assoc]
  have hbit := fun y => jxc (gh := gh) (c := c) (f := f) (x := y) (t := 0) (i := (i : Int))
  generalize c.inits[i] = x at *
  generalize stE f c.inp 0 i = n at *
  by_cases x0 : x = 0
  ·subst x0
   rw [if_pos ⟨rfl, by decide⟩, if_neg (by decide)]
   refine jpj (qv_ (s := ⟨[(1, I (N : Int)), (2, B true), (3, B b3), (4, .ptr true gh.length 0), (8, .ptr false 0 0), (9, .ptr true (gh.length + 1) 0), (10, .ptr true (gh.length + 2) 0), (11, .fn 338 [.ptr true (gh.length + 2) 0]), (12, .fn 339 [.ptr true (gh.length + 1) 0, .ptr true gh.length 0]), (17, I ((i + 1 : Nat) : Int))], [[I 0, .sl true 1 []]], V gh c f (outO vars (LLI (cls ++ [[negI n]])))⟩) ?h2) (hrec _ (by simp; omega))
   case h2 =>
    have ha := jr6 (gh := gh) (c := c) (f := f) (vars := vars) (cls := cls) (l := [negI n]) (by omega)
    have k5 : ∀ y, runL pg qr ⟨[(1, I (N : Int)), (2, B true), (3, B b3), (4, .ptr true gh.length 0), (8, .ptr false 0 0), (9, .ptr true (gh.length + 1) 0), (10, .ptr true (gh.length + 2) 0), (11, .fn 338 [.ptr true (gh.length + 2) 0]), (12, .fn 339 [.ptr true (gh.length + 1) 0, .ptr true gh.length 0]), (17, I (i : Int))], [[I 0, .sl true 1 []]], V gh c f y⟩ = some (.normal, ⟨[(1, I (N : Int)), (2, B true), (3, B b3), (4, .ptr true gh.length 0), (8, .ptr false 0 0), (9, .ptr true (gh.length + 1) 0), (10, .ptr true (gh.length + 2) 0), (11, .fn 338 [.ptr true (gh.length + 2) 0]), (12, .fn 339 [.ptr true (gh.length + 1) 0, .ptr true gh.length 0]), (17, I (i : Int))], [[I 0, .sl true 1 []]], V gh c f y⟩) := fun y => by
     refine q3b_ ?_
     simp [q3b, hx, V_c, cC, -List.getElem?_map]
    simp only [LI, List.map_cons, List.map_nil, negI] at ha ⊢
    generalize LLI (cls ++ [[IntKind.i64.wrap (-n)]]) = C1 at *
    generalize LLI cls = C at *
    simp [qv, hltI, hx, V_c, cC, hbit, ha, k5, hk, show Nat.ble 1 1 = true from rfl, -List.getElem?_map]
  by_cases x1 : x = 1
  ·subst x1
   rw [if_pos ⟨rfl, by decide⟩, if_pos rfl]
   refine jpj (qv_ (s := ⟨[(1, I (N : Int)), (2, B true), (3, B b3), (4, .ptr true gh.length 0), (8, .ptr false 0 0), (9, .ptr true (gh.length + 1) 0), (10, .ptr true (gh.length + 2) 0), (11, .fn 338 [.ptr true (gh.length + 2) 0]), (12, .fn 339 [.ptr true (gh.length + 1) 0, .ptr true gh.length 0]), (17, I ((i + 1 : Nat) : Int))], [[I 0, .sl true 1 []]], V gh c f (outO vars (LLI (cls ++ [[n]])))⟩) ?h3) (hrec _ (by simp; omega))
   case h3 =>
    have ha := jr6 (gh := gh) (c := c) (f := f) (vars := vars) (cls := cls) (l := [n]) (by omega)
    simp only [LI, List.map_cons, List.map_nil] at ha ⊢
    generalize LLI (cls ++ [[n]]) = C1 at *
    generalize LLI cls = C at *
    have k5 : runL pg qr ⟨[(1, I (N : Int)), (2, B true), (3, B b3), (4, .ptr true gh.length 0), (8, .ptr false 0 0), (9, .ptr true (gh.length + 1) 0), (10, .ptr true (gh.length + 2) 0), (11, .fn 338 [.ptr true (gh.length + 2) 0]), (12, .fn 339 [.ptr true (gh.length + 1) 0, .ptr true gh.length 0]), (17, I (i : Int))], [[I 0, .sl true 1 []]], V gh c f (outO vars C)⟩ = some (.normal, ⟨[(1, I (N : Int)), (2, B true), (3, B b3), (4, .ptr true gh.length 0), (8, .ptr false 0 0), (9, .ptr true (gh.length + 1) 0), (10, .ptr true (gh.length + 2) 0), (11, .fn 338 [.ptr true (gh.length + 2) 0]), (12, .fn 339 [.ptr true (gh.length + 1) 0, .ptr true gh.length 0]), (17, I (i : Int))], [[I 0, .sl true 1 []]], V gh c f (outO vars C1)⟩) := by
     refine q3b_ ?_
     simp [q3b, hx, V_c, cC, hbit, ha, -List.getElem?_map]
    simp [qv, hltI, hx, V_c, cC, k5, hk, show Nat.ble 1 1 = true from rfl, -List.getElem?_map]
  ·rw [if_neg (by omega), List.append_nil]
   refine jpj (qv_ (s := ⟨[(1, I (N : Int)), (2, B true), (3, B b3), (4, .ptr true gh.length 0), (8, .ptr false 0 0), (9, .ptr true (gh.length + 1) 0), (10, .ptr true (gh.length + 2) 0), (11, .fn 338 [.ptr true (gh.length + 2) 0]), (12, .fn 339 [.ptr true (gh.length + 1) 0, .ptr true gh.length 0]), (17, I ((i + 1 : Nat) : Int))], [[I 0, .sl true 1 []]], V gh c f (outO vars (LLI (cls)))⟩) ?h4) (hrec _ (by omega))
   case h4 =>
    have k5 : ∀ y, runL pg qr ⟨[(1, I (N : Int)), (2, B true), (3, B b3), (4, .ptr true gh.length 0), (8, .ptr false 0 0), (9, .ptr true (gh.length + 1) 0), (10, .ptr true (gh.length + 2) 0), (11, .fn 338 [.ptr true (gh.length + 2) 0]), (12, .fn 339 [.ptr true (gh.length + 1) 0, .ptr true gh.length 0]), (17, I (i : Int))], [[I 0, .sl true 1 []]], V gh c f y⟩ = some (.normal, ⟨[(1, I (N : Int)), (2, B true), (3, B b3), (4, .ptr true gh.length 0), (8, .ptr false 0 0), (9, .ptr true (gh.length + 1) 0), (10, .ptr true (gh.length + 2) 0), (11, .fn 338 [.ptr true (gh.length + 2) 0]), (12, .fn 339 [.ptr true (gh.length + 1) 0, .ptr true gh.length 0]), (17, I (i : Int))], [[I 0, .sl true 1 []]], V gh c f y⟩) := fun y => by
     refine q3b_ ?_
     simp [q3b, hx, x1, V_c, cC, -List.getElem?_map]
    generalize LLI cls = C at *
    simp [qv, hltI, hx, x0, V_c, cC, k5, hk, show Nat.ble 1 1 = true from rfl, -List.getElem?_map]
theorem sc_l4n {cls : List (List Int)} : runL pg q1j ⟨[(1, I (N : Int)), (2, B false), (3, B b3), (4, .ptr true gh.length 0), (8, .ptr false 0 0), (9, .ptr true (gh.length + 1) 0), (10, .ptr true (gh.length + 2) 0), (11, .fn 338 [.ptr true (gh.length + 2) 0]), (12, .fn 339 [.ptr true (gh.length + 1) 0, .ptr true gh.length 0]), (17, I 0)], [[I 0, .sl true 1 []]], V gh c f (outO vars (LLI (cls)))⟩ = some (.normal, ⟨[(1, I (N : Int)), (3, B b3), (4, .ptr true gh.length 0), (8, .ptr false 0 0), (9, .ptr true (gh.length + 1) 0), (10, .ptr true (gh.length + 2) 0), (11, .fn 338 [.ptr true (gh.length + 2) 0]), (12, .fn 339 [.ptr true (gh.length + 1) 0, .ptr true gh.length 0])], [[I 0, .sl true 1 []]], V gh c f (outO vars (LLI (cls)))⟩) := by
 generalize LLI cls = C
 by_cases hlt : 0 < c.st
 ·refine (jpp (s1 := ?s1) (qv_ ?h1)).trans ?r1
  case h1 => simp [qv, hlt, V_c, cC]; rfl
  case r1 => simp [keep, stays]
 ·refine (jpp (s1 := ?s2) (qv_ ?h2)).trans ?r2
  case h2 => simp [qv, hlt, V_c, cC]; rfl
  case r2 => simp [keep, stays]
theorem sc_l6 (hc : CiS c) {t : Nat} : ∀ k i (cls : List (List Int)), i + k = c.holds.length → cls.length + k ≤ 800000000 →
  runL pg q51 ⟨[(1, I (N : Int)), (3, B b3), (4, .ptr true gh.length 0), (8, .ptr false 0 0), (9, .ptr true (gh.length + 1) 0), (10, .ptr true (gh.length + 2) 0), (11, .fn 338 [.ptr true (gh.length + 2) 0]), (12, .fn 339 [.ptr true (gh.length + 1) 0, .ptr true gh.length 0]), (18, I (t : Int)), (19, I (i : Int))], [[I 0, .sl true 1 []]], V gh c f (outO vars (LLI (cls)))⟩ = some (.normal, ⟨[(1, I (N : Int)), (3, B b3), (4, .ptr true gh.length 0), (8, .ptr false 0 0), (9, .ptr true (gh.length + 1) 0), (10, .ptr true (gh.length + 2) 0), (11, .fn 338 [.ptr true (gh.length + 2) 0]), (12, .fn 339 [.ptr true (gh.length + 1) 0, .ptr true gh.length 0]), (18, I (t : Int))], [[I 0, .sl true 1 []]], V gh c f (outO vars (LLI (cls ++ rootsC (IntKind.i64.wrap ((t : Int) * f)) (c.holds.drop i))))⟩)
 | 0, i, cls, h, _ => by
  have hlt : ¬ i < c.holds.length := by omega
  rw [List.drop_eq_nil_of_le (by omega)]
  refine (jpp (s1 := ?s1) (q79_ ?h1)).trans ?r1
  case h1 => simp [q79, hlt, V_c, cC]; rfl
  case r1 => simp [keep, rootsC, stays]
 | k + 1, i, cls, h, hs => by
  have hlt : i < c.holds.length := by omega
  have hli := hc.holds
  have hltD : decide (i < c.holds.length) = true := decide_eq_true hlt
  have e2 : IntKind.i64.wrap ((i : Int) + 1) = ((i + 1 : Nat) : Int) := by rw [jph (by omega) (by omega)]; omega
  have hx : (c.holds.map I)[i]? = some (I c.holds[i]) := by simp [List.getElem?_eq_getElem hlt]
  have hLl : (c.holds.map I).length = c.holds.length := List.length_map _
  have hrec := fun cls' h' => sc_l6 (t := t) hc k (i + 1) cls' (by omega) h'
  rw [List.drop_eq_getElem_cons hlt, rootsC, ← List.append_assoc]
  generalize c.holds[i] = x at *
  have hm := fun G => j13b (gh := G) (r := x) (more := IntKind.i64.wrap ((t : Int) * f))
  have hml := jtt x (IntKind.i64.wrap ((t : Int) * f))
  refine jpj (q79_ (s := ⟨[(1, I (N : Int)), (3, B b3), (4, .ptr true gh.length 0), (8, .ptr false 0 0), (9, .ptr true (gh.length + 1) 0), (10, .ptr true (gh.length + 2) 0), (11, .fn 338 [.ptr true (gh.length + 2) 0]), (12, .fn 339 [.ptr true (gh.length + 1) 0, .ptr true gh.length 0]), (18, I (t : Int)), (19, I ((i + 1 : Nat) : Int))], [[I 0, .sl true 1 []]], V gh c f (outO vars (LLI (cls ++ mustC x (IntKind.i64.wrap ((t : Int) * f)))))⟩) ?h2) (hrec _ (by rw [List.length_append]; omega))
  case h2 =>
   have hmx := fits24 (n := cls.length + (mustC x (IntKind.i64.wrap ((t : Int) * f))).length) (by omega)
   generalize mustC x (IntKind.i64.wrap ((t : Int) * f)) = A at *
   have e3 : LLI (cls ++ A) = LLI cls ++ LLI A := by simp [LLI]
   have l1 : (LLI cls).length = cls.length := by simp [LLI]
   have l2 : (LLI A).length = A.length := by simp [LLI]
   rw [e3]
   generalize LLI A = M at *
   generalize LLI cls = C at *
   rw [← l1, ← l2] at hmx
   have hrt := fun (x : Option (IExit × St)) => jw3 (x := x) (V_rtP (gh := gh) (c := c) (f := f) (vars := vars) (L := C) fun o => hm _)
   simp [q79, hltD, hx, hLl, V_o, V_set, V_c, V_f, cC, hm, hrt, hmx, e2, spliceAt, -List.getElem?_map]
theorem sc_l5 (hc : CiS c) (hN : N ≤ 40) : ∀ k i (cls : List (List Int)), i + k = N + 1 → cls.length + 1048576 * k ≤ 800000000 →
  runL pg q52 ⟨[(1, I (N : Int)), (3, B b3), (4, .ptr true gh.length 0), (8, .ptr false 0 0), (9, .ptr true (gh.length + 1) 0), (10, .ptr true (gh.length + 2) 0), (11, .fn 338 [.ptr true (gh.length + 2) 0]), (12, .fn 339 [.ptr true (gh.length + 1) 0, .ptr true gh.length 0]), (18, I (i : Int))], [[I 0, .sl true 1 []]], V gh c f (outO vars (LLI (cls)))⟩ = some (.normal, ⟨[(1, I (N : Int)), (3, B b3), (4, .ptr true gh.length 0), (8, .ptr false 0 0), (9, .ptr true (gh.length + 1) 0), (10, .ptr true (gh.length + 2) 0), (11, .fn 338 [.ptr true (gh.length + 2) 0]), (12, .fn 339 [.ptr true (gh.length + 1) 0, .ptr true gh.length 0])], [[I 0, .sl true 1 []]], V gh c f (outO vars (LLI (cls ++ upto (holdG c f) i k)))⟩)
 | 0, i, cls, h, _ => by
  have hlt : ¬ (i : Int) ≤ (N : Int) := by omega
  refine (jpp (s1 := ?s1) (q7a_ ?h1)).trans ?r1
  case h1 => simp [q7a, hlt]; rfl
  case r1 => simp [keep, upto, stays]
 | k + 1, i, cls, h, hs => by
  have hlt : (i : Int) ≤ (N : Int) := by omega
  have hli := hc.holds
  have e2 : IntKind.i64.wrap ((i : Int) + 1) = ((i + 1 : Nat) : Int) := by rw [jph (by omega) (by omega)]; omega
  have hlen : (holdG c f i).length ≤ c.holds.length := jr3 _ _
  have hin := sc_l6 (gh := gh) (vars := vars) (f := f) (b3 := b3) (N := N) (t := i) hc c.holds.length 0 cls (by omega) (by omega)
  have hrec := sc_l5 hc hN k (i + 1) (cls ++ holdG c f i) (by omega) (by rw [List.length_append]; omega)
  have hk : ∀ G : List GObj, runL pg q2c ⟨[(1, I (N : Int)), (3, B b3), (4, .ptr true gh.length 0), (8, .ptr false 0 0), (9, .ptr true (gh.length + 1) 0), (10, .ptr true (gh.length + 2) 0), (11, .fn 338 [.ptr true (gh.length + 2) 0]), (12, .fn 339 [.ptr true (gh.length + 1) 0, .ptr true gh.length 0]), (18, I (i : Int))], [[I 0, .sl true 1 []]], G⟩ = some (.normal, ⟨[(1, I (N : Int)), (3, B b3), (4, .ptr true gh.length 0), (8, .ptr false 0 0), (9, .ptr true (gh.length + 1) 0), (10, .ptr true (gh.length + 2) 0), (11, .fn 338 [.ptr true (gh.length + 2) 0]), (12, .fn 339 [.ptr true (gh.length + 1) 0, .ptr true gh.length 0]), (18, I ((i + 1 : Nat) : Int))], [[I 0, .sl true 1 []]], G⟩) := fun G => by
   refine qbi_ ?_
   simp [qbi, e2]
  rw [List.drop_zero] at hin
  rw [upto, ← List.append_assoc]
  refine jpj (q7a_ (s := ⟨[(1, I (N : Int)), (3, B b3), (4, .ptr true gh.length 0), (8, .ptr false 0 0), (9, .ptr true (gh.length + 1) 0), (10, .ptr true (gh.length + 2) 0), (11, .fn 338 [.ptr true (gh.length + 2) 0]), (12, .fn 339 [.ptr true (gh.length + 1) 0, .ptr true gh.length 0]), (18, I ((i + 1 : Nat) : Int))], [[I 0, .sl true 1 []]], V gh c f (outO vars (LLI (cls ++ holdG c f i)))⟩) ?h2) hrec
  case h2 =>
   unfold holdG at *
   simp only [Int.natCast_zero] at hin
   generalize LLI (cls ++ rootsC (IntKind.i64.wrap ((i : Int) * f)) c.holds) = C1 at *
   generalize LLI cls = C at *
   simp [q7a, hlt, hin, hk, show Nat.ble 1 1 = true from rfl]
theorem sc_l7 (hc : CiS c) : ∀ k i (acc : List Int), i + k = c.bads.length → acc.length ≤ i →
  runL pg q53 ⟨[(1, I (N : Int)), (3, B b3), (4, .ptr true gh.length 0), (8, .ptr false 0 0), (9, .ptr true (gh.length + 1) 0), (10, .ptr true (gh.length + 2) 0), (11, .fn 338 [.ptr true (gh.length + 2) 0]), (12, .fn 339 [.ptr true (gh.length + 1) 0, .ptr true gh.length 0]), (20, .sl true 1 (acc.map I)), (21, I (i : Int))], [[I 0, .sl true 1 []]], V gh c f x⟩ = some (.normal, ⟨[(1, I (N : Int)), (3, B b3), (4, .ptr true gh.length 0), (8, .ptr false 0 0), (9, .ptr true (gh.length + 1) 0), (10, .ptr true (gh.length + 2) 0), (11, .fn 338 [.ptr true (gh.length + 2) 0]), (12, .fn 339 [.ptr true (gh.length + 1) 0, .ptr true gh.length 0]), (20, .sl true 1 ((acc ++ badL (IntKind.i64.wrap ((N : Int) * f)) (c.bads.drop i)).map I))], [[I 0, .sl true 1 []]], V gh c f x⟩)
 | 0, i, acc, h, _ => by
  have hlt : ¬ i < c.bads.length := by omega
  rw [List.drop_eq_nil_of_le (by omega)]
  refine (jpp (s1 := ?s1) (q3c_ ?h1)).trans ?r1
  case h1 => simp [q3c, hlt, V_c, cC]; rfl
  case r1 => simp [keep, badL, stays]
 | k + 1, i, acc, h, ha => by
  have hlt : i < c.bads.length := by omega
  have hli := hc.bads
  have hltD : decide (i < c.bads.length) = true := decide_eq_true hlt
  have hm : maxBytes = 140737488355328 := rfl
  have e2 : IntKind.i64.wrap ((i : Int) + 1) = ((i + 1 : Nat) : Int) := by rw [jph (by omega) (by omega)]; omega
  have hx' : (c.bads.map I)[i]? = some (I c.bads[i]) := by simp [List.getElem?_eq_getElem hlt]
  have hLl : (c.bads.map I).length = c.bads.length := List.length_map _
  have hrec := fun acc' h' => sc_l7 hc k (i + 1) acc' (by omega) h'
  rw [List.drop_eq_getElem_cons hlt, badL]
  generalize c.bads[i] = z at *
  have hN' := fun G => Num_eq z (IntKind.i64.wrap ((N : Int) * f)) G
  have hk : ∀ A : List PV, runL pg q1k ⟨[(1, I (N : Int)), (3, B b3), (4, .ptr true gh.length 0), (8, .ptr false 0 0), (9, .ptr true (gh.length + 1) 0), (10, .ptr true (gh.length + 2) 0), (11, .fn 338 [.ptr true (gh.length + 2) 0]), (12, .fn 339 [.ptr true (gh.length + 1) 0, .ptr true gh.length 0]), (20, .sl true 1 A), (21, I (i : Int))], [[I 0, .sl true 1 []]], V gh c f x⟩ = some (.normal, ⟨[(1, I (N : Int)), (3, B b3), (4, .ptr true gh.length 0), (8, .ptr false 0 0), (9, .ptr true (gh.length + 1) 0), (10, .ptr true (gh.length + 2) 0), (11, .fn 338 [.ptr true (gh.length + 2) 0]), (12, .fn 339 [.ptr true (gh.length + 1) 0, .ptr true gh.length 0]), (20, .sl true 1 A), (21, I ((i + 1 : Nat) : Int))], [[I 0, .sl true 1 []]], V gh c f x⟩) := fun A => by
   refine qbj_ ?_
   simp [qbj, e2]
  by_cases z0 : z = 0
  ·rw [if_pos z0]
   refine jpj (q3c_ (s := ⟨[(1, I (N : Int)), (3, B b3), (4, .ptr true gh.length 0), (8, .ptr false 0 0), (9, .ptr true (gh.length + 1) 0), (10, .ptr true (gh.length + 2) 0), (11, .fn 338 [.ptr true (gh.length + 2) 0]), (12, .fn 339 [.ptr true (gh.length + 1) 0, .ptr true gh.length 0]), (20, .sl true 1 (acc.map I)), (21, I ((i + 1 : Nat) : Int))], [[I 0, .sl true 1 []]], V gh c f x⟩) ?h2) (hrec acc (by omega))
   case h2 => simp [q3c, hltD, hx', z0, hLl, V_c, cC, hk, show Nat.ble 1 1 = true from rfl, -List.getElem?_map]
  ·rw [if_neg z0]
   have hr := hrec (acc ++ [numE z (IntKind.i64.wrap ((N : Int) * f))]) (by simp; omega)
   rw [List.append_assoc, List.cons_append, List.nil_append] at hr
   refine jpj (q3c_ (s := ⟨[(1, I (N : Int)), (3, B b3), (4, .ptr true gh.length 0), (8, .ptr false 0 0), (9, .ptr true (gh.length + 1) 0), (10, .ptr true (gh.length + 2) 0), (11, .fn 338 [.ptr true (gh.length + 2) 0]), (12, .fn 339 [.ptr true (gh.length + 1) 0, .ptr true gh.length 0]), (20, .sl true 1 ((acc ++ [numE z (IntKind.i64.wrap ((N : Int) * f))]).map I)), (21, I ((i + 1 : Nat) : Int))], [[I 0, .sl true 1 []]], V gh c f x⟩) ?h3) hr
   case h3 =>
    have hmx : (acc.length + 1) * 8 ≤ maxBytes := by omega
    generalize numE z (IntKind.i64.wrap ((N : Int) * f)) = A at *
    rw [List.map_append]
    simp only [List.map_cons, List.map_nil]
    simp [q3c, hltD, hx', z0, hLl, V_c, V_f, cC, hN', hmx, hk, show Nat.ble 1 1 = true from rfl, -List.getElem?_map]
theorem sc_k9 (hc : CiS c) {cls : List (List Int)} {s : St} (hs : cls.length ≤ 800000000)
  (hk : runL pg qi ⟨[(1, I (N : Int)), (3, B b3), (4, .ptr true gh.length 0), (8, .ptr false 0 0), (9, .ptr true (gh.length + 1) 0), (10, .ptr true (gh.length + 2) 0), (11, .fn 338 [.ptr true (gh.length + 2) 0]), (12, .fn 339 [.ptr true (gh.length + 1) 0, .ptr true gh.length 0])], [[I 0, .sl true 1 []]], V gh c f (outO vars (LLI (cls ++ badC (IntKind.i64.wrap ((N : Int) * f)) c.bads)))⟩ = some (.ret, s)) : runL pg q2e ⟨[(1, I (N : Int)), (3, B b3), (4, .ptr true gh.length 0), (8, .ptr false 0 0), (9, .ptr true (gh.length + 1) 0), (10, .ptr true (gh.length + 2) 0), (11, .fn 338 [.ptr true (gh.length + 2) 0]), (12, .fn 339 [.ptr true (gh.length + 1) 0, .ptr true gh.length 0])], [[I 0, .sl true 1 []]], V gh c f (outO vars (LLI (cls)))⟩ = some (.ret, s) := by
 have hH := fun G => j13l (gh := G) (l := c.bads) (n := 1) (by have := hc.bads; simp only [Sz]; omega)
 unfold badC at hk
 refine q7b_ ?_
 by_cases h1 : 1 ∈ c.bads
 ·rw [if_pos h1, List.append_nil] at hk
  rw [decide_eq_true h1] at hH
  generalize LLI cls = C at *
  simp only [LI] at hH
  simp [q7b, V_c, cC, hH, hk]
 ·rw [if_neg h1] at hk
  rw [decide_eq_false h1] at hH
  have hmx := fits24 (n := cls.length + 1) (by omega)
  have h7 := fun y => sc_l7 (gh := gh) (c := c) (f := f) (N := N) (b3 := b3) (x := y) hc c.bads.length 0 [] (by omega) (by simp)
  rw [List.drop_zero, List.nil_append] at h7
  simp only [Int.natCast_zero, List.map_nil] at h7
  generalize badL (IntKind.i64.wrap ((N : Int) * f)) c.bads = L at *
  have e3 : LLI (cls ++ [L]) = LLI cls ++ [LI L] := by simp [LLI]
  have l1 : (LLI cls).length = cls.length := by simp [LLI]
  rw [e3] at hk
  generalize LLI cls = C at *
  rw [← l1] at hmx
  have h11 : runL pg q2d ⟨[(1, I (N : Int)), (3, B b3), (4, .ptr true gh.length 0), (8, .ptr false 0 0), (9, .ptr true (gh.length + 1) 0), (10, .ptr true (gh.length + 2) 0), (11, .fn 338 [.ptr true (gh.length + 2) 0]), (12, .fn 339 [.ptr true (gh.length + 1) 0, .ptr true gh.length 0]), (20, .sl true 1 (L.map I))], [[I 0, .sl true 1 []]], V gh c f (outO vars C)⟩ = some (.normal, ⟨[(1, I (N : Int)), (3, B b3), (4, .ptr true gh.length 0), (8, .ptr false 0 0), (9, .ptr true (gh.length + 1) 0), (10, .ptr true (gh.length + 2) 0), (11, .fn 338 [.ptr true (gh.length + 2) 0]), (12, .fn 339 [.ptr true (gh.length + 1) 0, .ptr true gh.length 0])], [[I 0, .sl true 1 []]], V gh c f (outO vars (C ++ [LI L]))⟩) := by
   refine qbk_ ?_
   simp [qbk, V_o, V_set, hmx, spliceAt]
  simp only [LI] at hH h11 hk
  simp [q7b, V_c, cC, hH, h7, h11, hk, show Nat.ble 1 1 = true from rfl]
theorem j13n {s : St} (hc : CiS c) (hN : N ≤ 40) (hst : c.st = (c.nexts.length : Int)) (hsi : c.st = (c.inits.length : Int)) (hnn : ∀ x ∈ c.nexts, 0 ≤ x) (hin : begun = true → ∀ x ∈ c.inits, x ≤ 1)
  (hf : frE c = f) (hv : IntKind.i64.wrap (f * ((N + 1 : Nat) : Int)) = vars)
  (hk : runL pg qi ⟨[(1, I (N : Int)), (3, B b3), (4, .ptr true gh.length 0), (8, .ptr false 0 0), (9, .ptr true (gh.length + 1) 0), (10, .ptr true (gh.length + 2) 0), (11, .fn 338 [.ptr true (gh.length + 2) 0]), (12, .fn 339 [.ptr true (gh.length + 1) 0, .ptr true gh.length 0])], [[I 0, .sl true 1 []]], V gh c f (outO vars (LLI (rawC c f N begun)))⟩ = some (.ret, s)) :
  runL pg q54 ⟨[(0, ciV c), (1, I (N : Int)), (2, B begun), (3, B b3)], [], gh⟩ = some (.ret, s) := by
 have e1 : IntKind.i64.wrap ((N : Int) + 1) = ((N + 1 : Nat) : Int) := by rw [jph (by omega) (by omega)]; omega
 have l1 := sc_l1 (gh := gh) (vars := vars) (f := f) (begun := begun) (b3 := b3) hc hN (N + 1) 0 [] (by omega) (by simp; omega)
 have n1 : (upto (andsG c f) 0 (N + 1)).length ≤ 3000000 * (N + 1) := jq8 (fun i => by have := hc.ands; rw [jr2]; omega) _ _
 rw [List.nil_append] at l1
 generalize h1 : upto (andsG c f) 0 (N + 1) = A1 at *
 have l2 := sc_l2 (gh := gh) (vars := vars) (f := f) (begun := begun) (b3 := b3) hc hN hst hnn N 1 A1 (by omega) (by omega)
 have n2 : (upto (bindG c f) 1 N).length ≤ 2097152 * N := jq8 (fun i => by have := hc.nexts; have := jr5 f c.inp i 0 c.nexts; show (bindC f c.inp i 0 c.nexts).length ≤ _; omega) _ _
 generalize h2 : upto (bindG c f) 1 N = A2 at *
 have n3 := jsh f c.inp begun 0 c.inits
 have l3 : runL pg q1j ⟨[(1, I (N : Int)), (2, B begun), (3, B b3), (4, .ptr true gh.length 0), (8, .ptr false 0 0), (9, .ptr true (gh.length + 1) 0), (10, .ptr true (gh.length + 2) 0), (11, .fn 338 [.ptr true (gh.length + 2) 0]), (12, .fn 339 [.ptr true (gh.length + 1) 0, .ptr true gh.length 0]), (17, I 0)], [[I 0, .sl true 1 []]], V gh c f (outO vars (LLI (A1 ++ A2)))⟩ = some (.normal, ⟨[(1, I (N : Int)), (3, B b3), (4, .ptr true gh.length 0), (8, .ptr false 0 0), (9, .ptr true (gh.length + 1) 0), (10, .ptr true (gh.length + 2) 0), (11, .fn 338 [.ptr true (gh.length + 2) 0]), (12, .fn 339 [.ptr true (gh.length + 1) 0, .ptr true gh.length 0])], [[I 0, .sl true 1 []]], V gh c f (outO vars (LLI (A1 ++ A2 ++ initC f c.inp begun 0 c.inits)))⟩) := by
  cases begun with
  | true =>
   have h := sc_l4 (gh := gh) (vars := vars) (f := f) (b3 := b3) (N := N) hc hsi (hin rfl) c.inits.length 0 (A1 ++ A2) (by omega) (by have := hc.inits; rw [List.length_append]; omega)
   rw [List.drop_zero] at h
   exact h
  | false =>
   rw [jxd, List.append_nil]
   exact sc_l4n
 generalize h3 : initC f c.inp begun 0 c.inits = A3 at *
 have l4 := sc_l5 (gh := gh) (vars := vars) (f := f) (b3 := b3) hc hN (N + 1) 0 (A1 ++ A2 ++ A3) (by omega) (by have := hc.inits; simp only [List.length_append]; omega)
 have n4 : (upto (holdG c f) 0 (N + 1)).length ≤ 1048576 * (N + 1) := jq8 (fun i => by have := hc.holds; have := jr3 (IntKind.i64.wrap ((i : Int) * f)) c.holds; show (rootsC _ c.holds).length ≤ _; omega) _ _
 generalize h4 : upto (holdG c f) 0 (N + 1) = A4 at *
 have hR : rawC c f N begun = A1 ++ A2 ++ A3 ++ A4 ++ badC (IntKind.i64.wrap ((N : Int) * f)) c.bads := by rw [rawC, h1, h2, h3, h4]
 rw [hR] at hk
 have k9 := sc_k9 hc (by have := hc.inits; simp only [List.length_append]; omega) hk
 clear hk hR h1 h2 h3 h4 n1 n2 n3 n4
 simp only [Int.natCast_zero, Int.natCast_one] at l1 l2 l4
 have hg0 : V gh c f (outO vars (LLI [])) = gh ++ [.cells (cC c), .cells [I f], .cells [I vars, .sl true 1 []]] := rfl
 generalize ((N + 1 : Nat) : Int) = M at *
 generalize V gh c f (outO vars (LLI (A1 ++ A2 ++ A3 ++ A4))) = g4 at *
 generalize V gh c f (outO vars (LLI (A1 ++ A2 ++ A3))) = g3 at *
 generalize V gh c f (outO vars (LLI (A1 ++ A2))) = g2 at *
 generalize V gh c f (outO vars (LLI A1)) = g1 at *
 rw [hg0] at l1
 have k7 : runL pg q2f ⟨[(1, I (N : Int)), (3, B b3), (4, .ptr true gh.length 0), (8, .ptr false 0 0), (9, .ptr true (gh.length + 1) 0), (10, .ptr true (gh.length + 2) 0), (11, .fn 338 [.ptr true (gh.length + 2) 0]), (12, .fn 339 [.ptr true (gh.length + 1) 0, .ptr true gh.length 0])], [[I 0, .sl true 1 []]], g3⟩ = some (.ret, s) := by
  refine qbm_ ?_
  simp [qbm, l4, k9]
 have k4 : runL pg q2g ⟨[(1, I (N : Int)), (2, B begun), (3, B b3), (4, .ptr true gh.length 0), (8, .ptr false 0 0), (9, .ptr true (gh.length + 1) 0), (10, .ptr true (gh.length + 2) 0), (11, .fn 338 [.ptr true (gh.length + 2) 0]), (12, .fn 339 [.ptr true (gh.length + 1) 0, .ptr true gh.length 0])], [[I 0, .sl true 1 []]], g2⟩ = some (.ret, s) := by
  refine qbn_ ?_
  simp [qbn, l3, k7]
 have k1 : runL pg q2h ⟨[(1, I (N : Int)), (2, B begun), (3, B b3), (4, .ptr true gh.length 0), (8, .ptr false 0 0), (9, .ptr true (gh.length + 1) 0), (10, .ptr true (gh.length + 2) 0), (11, .fn 338 [.ptr true (gh.length + 2) 0]), (12, .fn 339 [.ptr true (gh.length + 1) 0, .ptr true gh.length 0])], [[I 0, .sl true 1 []]], g1⟩ = some (.ret, s) := by
  refine qbo_ ?_
  simp [qbo, l2, k4]
 refine qbp_ ?_
 unfold frE at hf
 unfold cC at l1
 simp only [LI] at l1
 simp [qbp, hf, e1, hv, l1, k1, spliceAt]
theorem j13o (hc : CiS c) (hN : N ≤ 40) (hst : c.st = (c.nexts.length : Int)) (hsi : c.st = (c.inits.length : Int)) (hnn : ∀ x ∈ c.nexts, 0 ≤ x) (hin : begun = true → ∀ x ∈ c.inits, x ≤ 1) :
  callL pg 331 [ciV c, I (N : Int), B begun, B false] gh = some (clV (IntKind.i64.wrap (frE c * ((N + 1 : Nat) : Int))) (rawC c (frE c) N begun), gh) := by
 generalize hv : IntKind.i64.wrap (frE c * ((N + 1 : Nat) : Int)) = vars
 generalize hf : frE c = f at *
 have hn := jqf (rawC c f N begun)
 have ht : (V gh c f (outO vars (LLI (rawC c f N begun)))).take gh.length = gh := by simp [V]
 have hk : runL pg qi ⟨[(1, I (N : Int)), (3, B false), (4, .ptr true gh.length 0), (8, .ptr false 0 0), (9, .ptr true (gh.length + 1) 0), (10, .ptr true (gh.length + 2) 0), (11, .fn 338 [.ptr true (gh.length + 2) 0]), (12, .fn 339 [.ptr true (gh.length + 1) 0, .ptr true gh.length 0])], [[I 0, .sl true 1 []]], V gh c f (outO vars (LLI (rawC c f N begun)))⟩ = some (.ret, ⟨[(8, .ptr false 0 0)], [[I vars, .sl false 1 (LLI (rawC c f N begun))]], V gh c f (outO vars (LLI (rawC c f N begun)))⟩) := by
  refine qbl_ ?_
  generalize LLI (rawC c f N begun) = C at *
  simp [qbl, V_o]
 have h0 := j13n (gh := gh) hc hN hst hsi hnn hin hf hv hk
 unfold clV
 unfold LLI at h0 ht
 generalize ((rawC c f N begun).map fun l => LI l) = L at *
 refine jpc (fn := q55) rfl rfl h0 ?_
 generalize V gh c f (outO vars L) = G at *
 simp [finish, results, q55, resOfs, resOf, St.cellsAt, resOk, hn, ht]
end
end Go.Lw
end

/-! The law UnrollClauses, of the machine: it answers true. -/
section
namespace Go.Lw
open Go
section
variable {c : Ci} {begun : Bool}
theorem j13q (h : ciE c = 0) : c.st = (c.nexts.length : Int) ∧ c.st = (c.inits.length : Int) ∧ (∀ x ∈ c.nexts, 0 ≤ x) := by
 unfold ciE at h
 split at h
 ·split at h
  ·cases h
  ·split at h
   ·cases h
   ·split at h
    ·split at h
     ·rename_i h1
      split at h
      ·rename_i h2
       split at h
       ·rename_i h3
        refine ⟨h2.symm, h1.symm, fun x hx => ?_⟩
        simp only [Bool.and_eq_true, List.all_eq_true] at h3
        have := h3.2.1 x hx
        unfold isLit at this
        exact (of_decide_eq_true this).1
       ·cases h
      ·cases h
     ·cases h
    ·cases h
 ·rename_i h0; exact absurd h h0
theorem j13r {steps : Int} (h : readyE c steps begun = 0) : begun = true → ∀ x ∈ c.inits, x ≤ 1 := by
 intro hb x hx
 unfold readyE at h
 split at h
 ·split at h
  ·cases h
  ·split at h
   ·cases h
   ·split at h
    ·cases h
    ·rename_i h1
     refine Int.not_lt.1 fun hlt => h1 ⟨hb, ?_⟩
     rw [List.any_eq_true]
     exact ⟨x, hx, by simpa using hlt⟩
 ·rename_i h0; exact absurd h h0
theorem j13s (hc : CiS c) {N : Nat} (hN : N ≤ 40) (f : Int) : (rawC c f N begun).length ≤ 800000000 := by
 have n1 : (upto (andsG c f) 0 (N + 1)).length ≤ 3000000 * (N + 1) := jq8 (fun i => by have := hc.ands; rw [jr2]; omega) _ _
 have n2 : (upto (bindG c f) 1 N).length ≤ 2097152 * N := jq8 (fun i => by have := hc.nexts; have := jr5 f c.inp i 0 c.nexts; show (bindC f c.inp i 0 c.nexts).length ≤ _; omega) _ _
 have n3 := jsh f c.inp begun 0 c.inits
 have n4 : (upto (holdG c f) 0 (N + 1)).length ≤ 1048576 * (N + 1) := jq8 (fun i => by have := hc.holds; have := jr3 (IntKind.i64.wrap ((i : Int) * f)) c.holds; show (rootsC _ c.holds).length ≤ _; omega) _ _
 have n5 : (badC (IntKind.i64.wrap ((N : Int) * f)) c.bads).length ≤ 1 := by unfold badC; split <;> simp
 have := hc.inits
 unfold rawC
 simp only [List.length_append]
 omega
theorem j13t {steps : Int} (hr : RA c.ands) (hc : CiT c) : callL pg 328 [ciV c, I steps, B begun] [] = some (B true, []) := by
 have hX := j138 (gh := []) (steps := steps) (begun := begun) hr hc
 have hW := j13m (gh := []) (steps := steps) (begun := begun) hr hc
 have hB := j13p
 have fin : ∀ (s : St), s = ⟨[(6, B true)], [], []⟩ → runL pg q3s ⟨[(0, ciV c), (1, I steps), (2, B begun)], [], []⟩ = some (.ret, s) → callL pg 328 [ciV c, I steps, B begun] [] = some (B true, []) := by
  intro s hs hrun
  subst hs
  refine jpc (fn := q3t) rfl rfl hrun ?_
  simp [finish, results, q3t, resOfs, resOf, resOk, get]
 have k2 : ∀ (cs : List PV) (n e m : Int) (l q : List PV), callL pg 19 [.agg [I n, .sl false 1 l], I e, I e, .agg [I m, .sl false 1 q]] [] = some (B true, []) →
   ∀ (o : Bool), runL pg q18 ⟨[(7, .ptr false 1 0), (8, I e), (9, I e), (10, .ptr false 2 0)], [cC c, [I n, .sl false 1 l], [I m, .sl o 1 q]], []⟩ = some (.ret, ⟨[(6, B true)], [], []⟩) := by
  intro cs n e m l q h o
  refine qbs_ ?_
  simp [qbs, hB, h]
 unfold clausesE at hX
 by_cases h0 : readyE c steps begun = 0
 ·rw [if_pos h0] at hX
  obtain ⟨hz, N, hN, rfl⟩ := jx2 h0
  have hc := CiS_of hc hz
  obtain ⟨z1, z2, z3⟩ := j13q hz
  have hS := j13o (gh := []) (c := c) (N := N) (begun := begun) hc hN z1 z2 z3 (j13r h0)
  have hSL := SL_raw hc (frE c) N begun
  have hlen := j13s (begun := begun) hc hN (frE c)
  rw [h0] at hW
  rw [Int.toNat_natCast] at hX
  have e1 : IntKind.i64.wrap ((N : Int) + 1) = ((N + 1 : Nat) : Int) := by rw [jph (by omega) (by omega)]; omega
  unfold limE at hX
  generalize hM : ((N + 1 : Nat) : Int) = M at *
  generalize hvv : IntKind.i64.wrap (frE c * M) = vars at *
  generalize rawC c (frE c) N begun = R at *
  have hLl : (c.ands.map andV).length = c.ands.length := List.length_map _
  unfold frE at hvv
  by_cases hb : 200000 < vars
  ·rw [if_pos hb] at hX
   have hcl := jtv (gh := []) (e := 3) (v := 0) (L := []) (by decide)
   unfold clV at hcl hX
   have h2 := k2 [] 0 3 0 [] [] hcl true
   have h1 : runL pg qh ⟨[(1, I (N : Int)), (2, B begun), (3, .ptr false 0 0), (7, .ptr false 1 0), (8, I 3), (9, I 3), (10, .ptr false 2 0)], [cC c, [I 0, .sl false 1 []], [I 0, .sl true 1 []]], []⟩ = some (.ret, ⟨[(6, B true)], [], []⟩) := by
    refine q3d_ ?_
    unfold cC at h2
    simp only [LI] at h2
    simp [q3d, h2]
   unfold cC at h1
   simp only [ciV, LI, List.map_nil] at hX hW h1 fin ⊢
   refine fin _ rfl (q3e_ ?h1)
   case h1 => simp [q3e, hX, hW, hLl, e1, hvv, hb, h1]
  ·rw [if_neg hb] at hX
   have hD := j13e (gh := []) (vars := vars) (cls := R)
   have hpair : ∃ (n : Int) (l : List (List Int)) (e : Int), doneE vars R = .tup [clV n l, I e] ∧ callL pg 19 [clV n l, I e, I e, clV n l] [] = some (B true, []) := by
    unfold doneE
    by_cases he : clsE vars R = 0
    ·rw [if_pos he]
     exact ⟨_, _, _, rfl, j13h hSL (by simp only [Sz]; omega)⟩
    ·rw [if_neg he]
     exact ⟨_, _, _, rfl, jtv he⟩
   obtain ⟨n, l, e, ho, hcl⟩ := hpair
   rw [ho] at hX hD
   unfold clV at hcl hX hD hS
   generalize (l.map fun l => LI l) = L at *
   generalize (R.map fun l => LI l) = RL at *
   have h2 := k2 [] n e n L L hcl false
   have h1 : runL pg qh ⟨[(1, I (N : Int)), (2, B begun), (3, .ptr false 0 0), (7, .ptr false 1 0), (8, I e), (9, I 0), (10, .ptr false 2 0)], [cC c, [I n, .sl false 1 L], [I 0, .sl true 1 []]], []⟩ = some (.ret, ⟨[(6, B true)], [], []⟩) := by
    refine q3d_ ?_
    unfold cC at h2
    simp only [ciV, LI] at h2 hS
    simp [q3d, hS, hD, h2]
   unfold cC at h1
   simp only [ciV, LI] at hX hW h1 fin ⊢
   refine fin _ rfl (q3e_ ?h2)
   case h2 => simp [q3e, hX, hW, hLl, e1, hvv, hb, h1]
 ·rw [if_neg h0] at hX
  generalize readyE c steps begun = e at *
  have hcl := jtv (gh := []) (e := e) (v := 0) (L := []) h0
  unfold clV at hcl hX
  have h2 := k2 [] 0 e 0 [] [] hcl true
  have h1 : runL pg qh ⟨[(1, I steps), (2, B begun), (3, .ptr false 0 0), (7, .ptr false 1 0), (8, I e), (9, I e), (10, .ptr false 2 0)], [cC c, [I 0, .sl false 1 []], [I 0, .sl true 1 []]], []⟩ = some (.ret, ⟨[(6, B true)], [], []⟩) := by
   refine q3d_ ?_
   unfold cC at h2
   simp only [LI] at h2
   simp [q3d, h0, h2]
  unfold cC at h1
  simp only [ciV, LI, List.map_nil] at hX hW h1 fin ⊢
  refine fin _ rfl (q3e_ ?h3)
  case h3 => simp [q3e, hX, hW, h0, h1]
end
theorem j13u {c : Ci} {n : Nat} (hn : bulkPs [ciV c] ≤ n) : c.inits.length ≤ n ∧ c.nexts.length ≤ n ∧ c.bads.length ≤ n ∧ c.holds.length ≤ n := by
 have e1 := jrk (c.inits.map I)
 have e2 := jrk (c.nexts.map I)
 have e3 := jrk (c.bads.map I)
 have e4 := jrk (c.holds.map I)
 simp only [bulkPs, bulkP, List.length_map, ciV, LI] at hn e1 e2 e3 e4
 omega
abbrev insUnrollClauses : List (Bool × List CS) := [(true, circuitC), (false, [.int]), (false, [.bool])]
theorem j13v (qs : List PV) (h : argsTy insUnrollClauses qs) (hn : bulkPs qs ≤ 1048576) : callL pg 328 qs [] = some (B true, []) := by
 obtain ⟨_, _, rfl, h0, h⟩ := jtd h
 obtain ⟨_, _, rfl, h1, h⟩ := jtd h
 obtain ⟨_, _, rfl, h2, h⟩ := jtd h
 obtain rfl := j115 h
 obtain ⟨c, rfl, hr⟩ := j13k h0
 obtain ⟨steps, rfl, -⟩ := jqn (jtq h1)
 obtain ⟨b, rfl⟩ : ∃ b, _ = PV.bool b := jtq h2
 have hb := j13u (c := c) (n := 1048576) (by
  simp only [bulkPs, bulkP] at hn ⊢
  omega)
 exact j13t hr ⟨hb.1, hb.2.1, hb.2.2.1, hb.2.2.2⟩
end Go.Lw
end
