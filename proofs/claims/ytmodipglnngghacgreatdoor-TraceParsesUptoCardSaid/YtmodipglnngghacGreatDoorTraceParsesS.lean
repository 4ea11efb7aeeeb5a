/-
  The texts that the proof stands on, part 19.
-/
import Derived.Test.YtmodipglnngghacGreatDoorTraceParsesR
import Derived.Sort.Grow
set_option linter.unusedVariables false
set_option linter.unusedSimpArgs false
set_option linter.unnecessarySimpa false

/-! A stack of numbers, handed over as a row of cells. -/
section
namespace Go.Lw
open Go Go.Sort
section
variable {fi : FI} {M M' : Mem} {w w' W : World} {P : Program}
theorem cell_heap_eq {b k : Nat} (h : W.heap[b]? = w.heap[b]?) : W.cell? ⟨b, k, none⟩ = w.cell? ⟨b, k, none⟩ := by
  simp [World.cell?, h]
theorem GI.restk {gh : List GObj} (hG : GI fi M w gh) {b gen : Nat} {xs zs : List PV} (hgh : gh[b]? = some (.stk gen xs)) {cs2 : Array Value} {T : TypeId} (hos : W.os = w.os) (htp : W.tape = w.tape) (hout : W.output = w.output)
    (hsz : w.heap.size ≤ W.heap.size) (hoth : ∀ k, k < w.heap.size → k ≠ (M.st b).2.1 → W.heap[k]? = w.heap[k]?) (hblk : W.heap[(M.st b).2.1]? = some (.cells cs2 T (0, 0))) (hcs : cs2.size = (M.st b).2.2) (hlen : zs.length ≤ cs2.size)
    (hf : ∀ x ∈ zs, isFlat x = true) (hr : ∀ (j : Nat) (x : PV), zs[j]? = some x → ∃ u, cs2[j]? = some u ∧ RepP fi M W x u) : GI fi M W (gh.set b (.stk gen zs)) ∧ Kp M w M W := by
  have hbl : b < gh.length := (List.getElem?_eq_some_iff.1 hgh).1
  have hbg : b < M.gb.length := by rw [hG.gbl]; exact hbl
  obtain ⟨o1, o2, o3, o4, o5, cs0, T0, o6, o7, o8, o9⟩ : RepStk fi M w b M.gb[b] gen xs := hG.gh b _ _ hgh (List.getElem?_eq_getElem hbg)
  have g : Good M w M W (fun l => l = Loc.gh b 0) (fun _ => False) := by
    refine ⟨⟨fun _ _ h => h, fun _ _ h => h, fun bb k h => ?_, fun _ _ => ⟨Nat.le_refl _, fun _ => rfl⟩⟩, hsz, fun _ _ h => h, fun bb l h hl => ?_, fun bb hb _ h => ?_, fun _ _ => rfl⟩
    · exact cell_heap_eq (hoth bb (hG.immlt bb k h) (fun e => o4 k (by rw [← e]; exact h)))
    · exact ⟨h, hoth bb (hG.ownlt bb l h) (fun e => hl (by rw [e, o3] at h; cases h; rfl)), fun _ h => h, id, id⟩
    · exact ⟨hoth bb hb (fun e => by rw [e, o3] at h; cases h), fun _ h => h, h⟩
  have k : Kp M w M W := ⟨hos, htp, hout, hsz, g.ext, fun i hi _ _ ho => hoth i hi (fun e => by rw [e, o3] at ho; cases ho), fun _ h => .inl h, fun _ h => .inl h, fun _ _ h => h, fun _ _ h => .inl h⟩
  refine ⟨⟨fun t v h => by simp [get] at h, rfl, hG.lbl, by simpa using hG.gbl, hG.nodup, fun i cs blk h => by simp at h, fun i o blk h1 h2 => ?_, g.ext.gl hG.gl, fun bb j h => Nat.lt_of_lt_of_le (hG.immlt bb j h) hsz, fun bb l h => Nat.lt_of_lt_of_le (hG.ownlt bb l h) hsz, fun bb h => Nat.lt_of_lt_of_le (hG.gblt bb h) hsz⟩, k⟩
  simp only at h1
  rw [List.getElem?_set] at h1
  by_cases hbi : b = i
  · subst hbi
    rw [if_pos rfl, if_pos hbl] at h1
    cases h1
    have eb : M.gb[b] = blk := by rw [List.getElem?_eq_getElem hbg] at h2; exact Option.some.inj h2
    exact ⟨by rw [← eb]; exact o1, o2, o3, o4, hf, cs2, T, hblk, hcs, hlen, hr⟩
  · rw [if_neg hbi] at h1
    exact (hG.gh i o blk h1 h2).good g id (fun j h => by injection h with h1 h2; exact hbi h1.symm)
end
end Go.Lw
end

/-! What a trace is that a law is handed. -/
section
namespace Go.Lw
open Go Go.RowKit
theorem csOk_slice' {g : Bool} {bytes : Nat} {l : List CS} {p : PV} (h : csOk (.slice g bytes l) p) : ∃ xs, p = .sl false l.length xs ∧ xs.length * bytes ≤ reachBytes ∧ ∀ e ∈ xs, (g = true ∧ ∃ ps, e = .agg ps ∧ csAll l ps) ∨ (g = false ∧ csAll l [e]) := by
  unfold csOk at h; exact h
theorem int_list' : ∀ {xs : List PV}, (∀ e ∈ xs, (false = true ∧ ∃ ps, e = .agg ps ∧ csAll [.int] ps) ∨ (false = false ∧ csAll [.int] [e])) → ∃ v : List Int, I64s v ∧ xs = v.map I
  | [], _ => ⟨[], fun x h => (by cases h), rfl⟩
  | e :: xs, h => by
    obtain ⟨v, hr, rfl⟩ := int_list' (xs := xs) fun e he => h e (List.mem_cons_of_mem _ he)
    rcases h e (by simp) with ⟨h, -⟩ | ⟨-, hp⟩
    · cases h
    · obtain ⟨_, _, e1, g0, hp⟩ := csAll_cons hp
      cases csAll_nil hp
      simp only [List.cons.injEq, and_true] at e1
      subst e1
      obtain ⟨b, rfl, hb⟩ := csOk_int g0
      refine ⟨b :: v, fun x hx => ?_, rfl⟩
      rcases List.mem_cons.1 hx with rfl | hx
      · exact hb
      · exact hr x hx
theorem list_list' {xs : List PV} (h : ∀ e ∈ xs, (false = true ∧ ∃ ps, e = .agg ps ∧ csAll [.slice false 8 [.int]] ps) ∨ (false = false ∧ csAll [.slice false 8 [.int]] [e])) : ∃ cls : List (List Int), xs = (cls.map fun l => LI l) ∧ ∀ l ∈ cls, I64s l := by
  induction xs with
  | nil => exact ⟨[], rfl, fun l h => by cases h⟩
  | cons x xs ih =>
    obtain ⟨cls, rfl, hs⟩ := ih fun e he => h e (List.mem_cons_of_mem _ he)
    rcases h x (List.mem_cons_self ..) with ⟨h1, _⟩ | ⟨_, h1⟩
    · cases h1
    · obtain ⟨_, _, e, g0, hp⟩ := csAll_cons h1
      injection e with e1 e2
      subst e1; subst e2
      obtain ⟨ys, rfl, hb, hy⟩ := csOk_slice' g0
      obtain ⟨v, hv, rfl⟩ := int_list' hy
      refine ⟨v :: cls, rfl, fun l hl => ?_⟩
      rcases List.mem_cons.1 hl with rfl | hl
      · exact hv
      · exact hs l hl
abbrev traceC : List CS := [.slice false 8 [.int], .slice false 24 [.slice false 8 [.int]]]
theorem trace_ty {p : PV} (h : argTy (true, traceC) p) : ∃ st ins, p = traceV st ins ∧ I64s st ∧ ∀ l ∈ ins, I64s l := by
  obtain ⟨ps, rfl, hp⟩ := argTy_agg h
  obtain ⟨_, _, rfl, g0, hp⟩ := csAll_cons hp
  obtain ⟨_, _, rfl, g1, hp⟩ := csAll_cons hp
  obtain rfl := csAll_nil hp
  obtain ⟨xs, rfl, hb, hx⟩ := csOk_slice' g0
  obtain ⟨st, hs, rfl⟩ := int_list' hx
  obtain ⟨ys, rfl, hb, hy⟩ := csOk_slice' g1
  obtain ⟨ins, rfl, hi⟩ := list_list' hy
  exact ⟨st, ins, rfl, hs, hi⟩
theorem trace_bulk {st : List Int} {ins : List (List Int)} {N : Nat} (h : bulkP (traceV st ins) ≤ N) : st.length ≤ N ∧ ins.length ≤ N ∧ ∀ l ∈ ins, l.length ≤ N := by
  simp only [bulkP, bulkPs] at h
  have e1 := bulkPs_len (st.map I)
  have e2 := bulkPs_len (ins.map fun l => LI l)
  rw [List.length_map] at e1 e2
  refine ⟨by omega, by omega, fun l hl => ?_⟩
  have e3 := bulkPs_mem (p := LI l) (l := ins.map fun l => LI l) (List.mem_map_of_mem hl)
  have e4 := bulkPs_len (l.map I)
  rw [List.length_map] at e4
  simp only [bulkP] at e3
  omega
end Go.Lw
end

/-! TraceParses: the law answers true. -/
section
namespace Go.Lw
open Go
abbrev insTraceParses : List (Bool × List CS) := [(false, [.str]), (true, traceC)]
theorem print_small {st : List Int} {ins : List (List Int)} (h : (printT st ins).2 = 0) : ins.length ≤ 41 ∧ st.length ≤ 20 ∧ ∀ l ∈ ins, l.length ≤ 20 := by
  unfold printT at h
  split at h
  · cases h
  · rename_i hm
    simp only [manyB, Bool.or_eq_true, decide_eq_true_eq, not_or] at hm
    refine ⟨by omega, by omega, fun l hl => ?_⟩
    have h3 := hm.2
    rw [Bool.not_eq_true, List.any_eq_false] at h3
    have := h3 l hl
    simp at this; omega
section
variable {gh : List GObj}
theorem SameTrace_refl {st : List Int} {ins : List (List Int)} (h1 : st.length ≤ 3000000) (h2 : ins.length ≤ 3000000) (h3 : ∀ l ∈ ins, l.length ≤ 3000000) : callL pg 373 [traceV st ins, traceV st ins] gh = some (B true, gh) := by
  have e1 := SameInts_refl (gh := gh) (v := st) (by simp only [Sz]; omega)
  have e2 := SameLists_refl (gh := gh) (cls := ins) (fun l hl => by have := h3 l hl; simp only [Sz]; omega) (by simp only [Sz]; omega)
  simp only [traceV, LsI, LI, LLI] at *
  generalize (ins.map fun l => PV.sl false 1 (l.map I)) = L at *
  generalize st.map I = sL at *
  refine callL_fn (fn := f_ref_SameTrace) (s := ?s1) rfl rfl (D_ref_SameTrace_0_ok ?h1) ?r1
  case h1 => simp [D_ref_SameTrace_0, e1, e2]; rfl
  case r1 => simp [finish, results, f_ref_SameTrace, resOfs, resOf, resOk]
end
theorem ans_small (s : List UInt8) : ∃ st ins e, ansT (parseP s) = .tup [traceV st ins, I e] ∧ st.length ≤ 100 ∧ ins.length ≤ 100 ∧ ∀ l ∈ ins, l.length ≤ 100 := by
  cases h : parseP s with
  | none => exact ⟨[], [], 1, rfl, by simp, by simp, fun l hl => by cases hl⟩
  | some t =>
    have hp : (printT t.1 t.2).2 = 0 := by
      unfold parseP at h
      split at h
      · cases h
      · split at h
        · rename_i hp; cases h; exact hp
        · cases h
    obtain ⟨h1, h2, h3⟩ := print_small hp
    exact ⟨t.1, t.2, 0, rfl, by omega, by omega, fun l hl => by have := h3 l hl; omega⟩
theorem TraceParses_eq {s : List UInt8} {st : List Int} {ins : List (List Int)} (hs : s.length ≤ 1500000) (hst : I64s st) (hi : ∀ l ∈ ins, I64s l) (hn : ins.length ≤ 3000000) : callL pg 371 [.str (bA s), traceV st ins] [] = some (B true, []) := by
  have e1 := Parse_eq (gh := []) (s := s) (by omega)
  have e2 := ParseTrace_eq (gh := []) hs
  rw [← parse_one] at e2
  obtain ⟨a, b, e, ha, h1, h2, h3⟩ := ans_small s
  rw [ha] at e1 e2
  have e3 := SameTrace_refl (gh := []) (st := a) (ins := b) (by omega) (by omega) (fun l hl => by have := h3 l hl; omega)
  have e4 := pprint_eq (gh := []) hst hi hn
  have hb := traceBegun_true
  by_cases hp : (printT st ins).2 = 0
  · obtain ⟨p1, p2, p3⟩ := print_small hp
    obtain ⟨-, -, hT⟩ := print_ok hp
    have hlen : (textT st ins).length ≤ 1500000 := by
      have hX := lineB_len startW st
      have h5 : startW.length = 5 := rfl
      have hin : ∀ ls : List (List Int), (∀ l ∈ ls, l.length ≤ 20) → (ls.flatMap (lineB inW)).length ≤ 500 * ls.length := by
        intro ls
        induction ls with
        | nil => intro _; simp
        | cons a ls ih =>
          intro h
          have h1 := lineB_len inW a
          have h2 := h a (by simp)
          have h3 := ih (fun l hl => h l (by simp [hl]))
          simp only [List.flatMap_cons, List.length_append, List.length_cons]
          have h4 : inW.length = 2 := rfl
          omega
      have := hin ins p3
      rw [textT, List.length_append]; omega
    have e5 : callL pg 247 [.str (bA (textT st ins))] [] = some (.tup [traceV st ins, I 0], []) := by
      have h5 := Parse_eq (gh := []) (s := textT st ins) (by omega)
      rw [parse_text hp] at h5
      exact h5
    have e6 := SameTrace_refl (gh := []) (st := st) (ins := ins) (by omega) (by omega) (fun l hl => by have := p3 l hl; omega)
    rw [hT, hp] at e4
    generalize textT st ins = T at *
    simp only [traceV, LsI, LI] at *
    generalize (ins.map fun l => PV.sl false 1 (l.map I)) = L at *
    generalize st.map I = sL at *
    generalize (b.map fun l => PV.sl false 1 (l.map I)) = bL at *
    generalize a.map I = aL at *
    refine callL_fn (fn := f_law_TraceParses) (s := ⟨[(4, B true)], [], []⟩) rfl rfl (D_law_TraceParses_0_ok ?h1) ?r1
    case h1 => simp [D_law_TraceParses_0, e1, e2, e3, e4, e5, e6, hb]
    case r1 => simp [finish, results, f_law_TraceParses, resOfs, resOf, resOk]
  · generalize (printT st ins).1 = T at *
    generalize (printT st ins).2 = x at *
    simp only [traceV, LsI, LI] at *
    generalize (ins.map fun l => PV.sl false 1 (l.map I)) = L at *
    generalize st.map I = sL at *
    generalize (b.map fun l => PV.sl false 1 (l.map I)) = bL at *
    generalize a.map I = aL at *
    refine callL_fn (fn := f_law_TraceParses) (s := ⟨[(4, B true)], [], []⟩) rfl rfl (D_law_TraceParses_0_ok ?h2) ?r2
    case h2 => simp [D_law_TraceParses_0, e1, e2, e3, e4, hb, hp]
    case r2 => simp [finish, results, f_law_TraceParses, resOfs, resOf, resOk]
theorem traceParses_true (qs : List PV) (h : argsTy insTraceParses qs) (hn : bulkPs qs ≤ 1048576) : callL pg 371 qs [] = some (B true, []) := by
  obtain ⟨_, _, rfl, h0, h⟩ := argsTy_cons h
  obtain ⟨_, _, rfl, h1, h⟩ := argsTy_cons h
  obtain rfl := argsTy_nil h
  obtain ⟨q, ps, hq, h2, h3⟩ := csAll_cons h0
  cases csAll_nil h3
  simp only [List.cons.injEq, and_true] at hq
  subst hq
  unfold csOk at h2
  obtain ⟨s, rfl, -⟩ := h2
  obtain ⟨st, ins, rfl, hs, hi⟩ := trace_ty h1
  simp only [bulkPs] at hn
  obtain ⟨b1, b2, b3⟩ := trace_bulk (st := st) (ins := ins) (N := 1048576) (by omega)
  have hbs : bulkP (.str s) = s.size + 1 := rfl
  have hsz : s = bA s.data.toList := rfl
  have hl : s.data.toList.length ≤ 1048576 := by
    have : s.data.toList.length = s.size := rfl
    omega
  rw [hsz]
  exact TraceParses_eq (by omega) hs hi (by omega)
end Go.Lw
end
