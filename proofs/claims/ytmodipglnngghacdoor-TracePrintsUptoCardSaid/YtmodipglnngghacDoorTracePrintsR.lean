/-
  The texts that the proof stands on, part 18.
-/
import Derived.Test.YtmodipglnngghacDoorTracePrintsQ
import Derived.Sort.Grow
set_option linter.unusedVariables false
set_option linter.unusedSimpArgs false
set_option linter.unnecessarySimpa false

/-! A stack of numbers, handed over as a row of cells. -/
section
namespace Go.Lw
open Go Go.Sort
section
variable {fi : FI} {M M' : Mem} {w w' W : World} {P : Program}
theorem cell_heap_eq {b k : Nat} (h : W.heap[b]? = w.heap[b]?) : W.cell? ⟨b, k, none⟩ = w.cell? ⟨b, k, none⟩ := by
  simp [World.cell?, h]
theorem GI.restk {gh : List GObj} (hG : GI fi M w gh) {b gen : Nat} {xs zs : List PV} (hgh : gh[b]? = some (.stk gen xs)) {cs2 : Array Value} {T : TypeId} (hos : W.os = w.os) (htp : W.tape = w.tape) (hout : W.output = w.output)
    (hsz : w.heap.size ≤ W.heap.size) (hoth : ∀ k, k < w.heap.size → k ≠ (M.st b).2.1 → W.heap[k]? = w.heap[k]?) (hblk : W.heap[(M.st b).2.1]? = some (.cells cs2 T (0, 0))) (hcs : cs2.size = (M.st b).2.2) (hlen : zs.length ≤ cs2.size)
    (hf : ∀ x ∈ zs, isFlat x = true) (hr : ∀ (j : Nat) (x : PV), zs[j]? = some x → ∃ u, cs2[j]? = some u ∧ RepP fi M W x u) : GI fi M W (gh.set b (.stk gen zs)) ∧ Kp M w M W := by
  have hbl : b < gh.length := (List.getElem?_eq_some_iff.1 hgh).1
  have hbg : b < M.gb.length := by rw [hG.gbl]; exact hbl
  obtain ⟨o1, o2, o3, o4, o5, cs0, T0, o6, o7, o8, o9⟩ : RepStk fi M w b M.gb[b] gen xs := hG.gh b _ _ hgh (List.getElem?_eq_getElem hbg)
  have g : Good M w M W (fun l => l = Loc.gh b 0) (fun _ => False) := by
    refine ⟨⟨fun _ _ h => h, fun _ _ h => h, fun bb k h => ?_, fun _ _ => ⟨Nat.le_refl _, fun _ => rfl⟩⟩, hsz, fun _ _ h => h, fun bb l h hl => ?_, fun bb hb _ h => ?_, fun _ _ => rfl⟩
    · exact cell_heap_eq (hoth bb (hG.immlt bb k h) (fun e => o4 k (by rw [← e]; exact h)))
    · exact ⟨h, hoth bb (hG.ownlt bb l h) (fun e => hl (by rw [e, o3] at h; cases h; rfl)), fun _ h => h, id, id⟩
    · exact ⟨hoth bb hb (fun e => by rw [e, o3] at h; cases h), fun _ h => h, h⟩
  have k : Kp M w M W := ⟨hos, htp, hout, hsz, g.ext, fun i hi _ _ ho => hoth i hi (fun e => by rw [e, o3] at ho; cases ho), fun _ h => .inl h, fun _ h => .inl h, fun _ _ h => h, fun _ _ h => .inl h⟩
  refine ⟨⟨fun t v h => by simp [get] at h, rfl, hG.lbl, by simpa using hG.gbl, hG.nodup, fun i cs blk h => by simp at h, fun i o blk h1 h2 => ?_, g.ext.gl hG.gl, fun bb j h => Nat.lt_of_lt_of_le (hG.immlt bb j h) hsz, fun bb l h => Nat.lt_of_lt_of_le (hG.ownlt bb l h) hsz, fun bb h => Nat.lt_of_lt_of_le (hG.gblt bb h) hsz⟩, k⟩
  simp only at h1
  rw [List.getElem?_set] at h1
  by_cases hbi : b = i
  · subst hbi
    rw [if_pos rfl, if_pos hbl] at h1
    cases h1
    have eb : M.gb[b] = blk := by rw [List.getElem?_eq_getElem hbg] at h2; exact Option.some.inj h2
    exact ⟨by rw [← eb]; exact o1, o2, o3, o4, hf, cs2, T, hblk, hcs, hlen, hr⟩
  · rw [if_neg hbi] at h1
    exact (hG.gh i o blk h1 h2).good g id (fun j h => by injection h with h1 h2; exact hbi h1.symm)
end
end Go.Lw
end

/-! What a trace is that a law is handed. -/
section
namespace Go.Lw
open Go Go.RowKit
theorem csOk_slice' {g : Bool} {bytes : Nat} {l : List CS} {p : PV} (h : csOk (.slice g bytes l) p) : ∃ xs, p = .sl false l.length xs ∧ xs.length * bytes ≤ reachBytes ∧ ∀ e ∈ xs, (g = true ∧ ∃ ps, e = .agg ps ∧ csAll l ps) ∨ (g = false ∧ csAll l [e]) := by
  unfold csOk at h; exact h
theorem int_list' : ∀ {xs : List PV}, (∀ e ∈ xs, (false = true ∧ ∃ ps, e = .agg ps ∧ csAll [.int] ps) ∨ (false = false ∧ csAll [.int] [e])) → ∃ v : List Int, I64s v ∧ xs = v.map I
  | [], _ => ⟨[], fun x h => (by cases h), rfl⟩
  | e :: xs, h => by
    obtain ⟨v, hr, rfl⟩ := int_list' (xs := xs) fun e he => h e (List.mem_cons_of_mem _ he)
    rcases h e (by simp) with ⟨h, -⟩ | ⟨-, hp⟩
    · cases h
    · obtain ⟨_, _, e1, g0, hp⟩ := csAll_cons hp
      cases csAll_nil hp
      simp only [List.cons.injEq, and_true] at e1
      subst e1
      obtain ⟨b, rfl, hb⟩ := csOk_int g0
      refine ⟨b :: v, fun x hx => ?_, rfl⟩
      rcases List.mem_cons.1 hx with rfl | hx
      · exact hb
      · exact hr x hx
theorem list_list' {xs : List PV} (h : ∀ e ∈ xs, (false = true ∧ ∃ ps, e = .agg ps ∧ csAll [.slice false 8 [.int]] ps) ∨ (false = false ∧ csAll [.slice false 8 [.int]] [e])) : ∃ cls : List (List Int), xs = (cls.map fun l => LI l) ∧ ∀ l ∈ cls, I64s l := by
  induction xs with
  | nil => exact ⟨[], rfl, fun l h => by cases h⟩
  | cons x xs ih =>
    obtain ⟨cls, rfl, hs⟩ := ih fun e he => h e (List.mem_cons_of_mem _ he)
    rcases h x (List.mem_cons_self ..) with ⟨h1, _⟩ | ⟨_, h1⟩
    · cases h1
    · obtain ⟨_, _, e, g0, hp⟩ := csAll_cons h1
      injection e with e1 e2
      subst e1; subst e2
      obtain ⟨ys, rfl, hb, hy⟩ := csOk_slice' g0
      obtain ⟨v, hv, rfl⟩ := int_list' hy
      refine ⟨v :: cls, rfl, fun l hl => ?_⟩
      rcases List.mem_cons.1 hl with rfl | hl
      · exact hv
      · exact hs l hl
abbrev traceC : List CS := [.slice false 8 [.int], .slice false 24 [.slice false 8 [.int]]]
theorem trace_ty {p : PV} (h : argTy (true, traceC) p) : ∃ st ins, p = traceV st ins ∧ I64s st ∧ ∀ l ∈ ins, I64s l := by
  obtain ⟨ps, rfl, hp⟩ := argTy_agg h
  obtain ⟨_, _, rfl, g0, hp⟩ := csAll_cons hp
  obtain ⟨_, _, rfl, g1, hp⟩ := csAll_cons hp
  obtain rfl := csAll_nil hp
  obtain ⟨xs, rfl, hb, hx⟩ := csOk_slice' g0
  obtain ⟨st, hs, rfl⟩ := int_list' hx
  obtain ⟨ys, rfl, hb, hy⟩ := csOk_slice' g1
  obtain ⟨ins, rfl, hi⟩ := list_list' hy
  exact ⟨st, ins, rfl, hs, hi⟩
theorem trace_bulk {st : List Int} {ins : List (List Int)} {N : Nat} (h : bulkP (traceV st ins) ≤ N) : st.length ≤ N ∧ ins.length ≤ N ∧ ∀ l ∈ ins, l.length ≤ N := by
  simp only [bulkP, bulkPs] at h
  have e1 := bulkPs_len (st.map I)
  have e2 := bulkPs_len (ins.map fun l => LI l)
  rw [List.length_map] at e1 e2
  refine ⟨by omega, by omega, fun l hl => ?_⟩
  have e3 := bulkPs_mem (p := LI l) (l := ins.map fun l => LI l) (List.mem_map_of_mem hl)
  have e4 := bulkPs_len (l.map I)
  rw [List.length_map] at e4
  simp only [bulkP] at e3
  omega
end Go.Lw
end

/-! TracePrints: the law answers true. -/
section
namespace Go.Lw
open Go
abbrev insTracePrints : List (Bool × List CS) := [(true, traceC)]
theorem tracePrints_true (qs : List PV) (h : argsTy insTracePrints qs) (hn : bulkPs qs ≤ 1048576) : callL pg 350 qs [] = some (B true, []) := by
  obtain ⟨_, _, rfl, h0, h⟩ := argsTy_cons h
  obtain rfl := argsTy_nil h
  obtain ⟨st, ins, rfl, hs, hi⟩ := trace_ty h0
  obtain ⟨b1, b2, b3⟩ := trace_bulk (N := 1048576) (by simp only [bulkPs] at hn; omega)
  have e1 := pprint_eq (gh := []) hs hi (by omega)
  have e2 := rprint_eq (gh := []) hs (fun l hl => ⟨hi l hl, by have := b3 l hl; omega⟩) (by omega) (by omega)
  generalize (printT st ins).1 = T at *
  generalize (printT st ins).2 = e at *
  simp only [traceV, LsI, LI] at *
  generalize (ins.map fun l => PV.sl false 1 (l.map I)) = L at *
  generalize st.map I = sL at *
  refine callL_fn (fn := f_law_TracePrints) (s := ?s1) rfl rfl (D_law_TracePrints_0_ok ?h1) ?r1
  case h1 => simp [D_law_TracePrints_0, e1, e2, traceBegun_true]; rfl
  case r1 => simp [finish, results, f_law_TracePrints, resOfs, resOf, resOk]
end Go.Lw
end
