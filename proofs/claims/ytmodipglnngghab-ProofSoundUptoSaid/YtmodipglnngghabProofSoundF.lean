/-
  The texts that the proof stands on, part 6.
-/
import Derived.Test.YtmodipglnngghabProofSoundE
set_option linter.unusedVariables false
set_option linter.unusedSimpArgs false
set_option linter.unnecessarySimpa false

/-! What follows from clauses by putting in what must be: plain lists. -/
section
namespace Go.Lw

/-- What must be, of clauses and of what is so. -/
inductive Der (L : List (List Int)) (S : List Int) : Int → Prop
  | base {x : Int} : x ∈ S → Der L S x
  | unit {c : List Int} {x : Int} : c ∈ L → x ∈ c → (∀ y ∈ c, y ≠ x → Der L S (-y)) → Der L S x

def Conf (L : List (List Int)) (S : List Int) : Prop := (∃ x, Der L S x ∧ Der L S (-x)) ∨ ∃ c ∈ L, ∀ y ∈ c, Der L S (-y)

/-- Nothing more comes of it. -/
theorem closed_no {L : List (List Int)} {S T : List Int} (hS : ∀ x ∈ S, x ∈ T) (hc : ∀ x ∈ T, -x ∉ T) (hz : ∀ c ∈ L, c ≠ []) (hu : ∀ c ∈ L, ∀ x ∈ c, (∀ y ∈ c, y ≠ x → -y ∈ T) → x ∈ T) : ¬ Conf L S := by
  have hd : ∀ x, Der L S x → x ∈ T := fun x h => by
    induction h with
    | base h => exact hS _ h
    | unit h1 h2 _ ih => exact hu _ h1 _ h2 ih
  rintro (⟨x, h1, h2⟩ | ⟨c, h1, h2⟩)
  · exact hc _ (hd _ h1) (hd _ h2)
  · cases c with
    | nil => exact hz _ h1 rfl
    | cons x c =>
      have hx := hu _ h1 x (List.mem_cons_self ..) fun y hy _ => hd _ (h2 y hy)
      exact hc _ hx (hd _ (h2 x (List.mem_cons_self ..)))

/-- What is known on the way. -/
structure SoOk (L : List (List Int)) (S T : List Int) : Prop where
  has : ∀ x ∈ S, x ∈ T
  der : ∀ x ∈ T, Der L S x
  con : ∀ x ∈ T, -x ∉ T
  nz : ∀ x ∈ T, x ≠ 0

theorem SoOk.add {L : List (List Int)} {S T : List Int} (h : SoOk L S T) {x : Int} (hd : Der L S x) (hn : -x ∉ T) (h0 : x ≠ 0) : SoOk L S (T ++ [x]) where
  has := fun y hy => List.mem_append.2 (.inl (h.has y hy))
  der := fun y hy => by
    rcases List.mem_append.1 hy with hy | hy
    · exact h.der y hy
    · rw [List.mem_singleton.1 hy]; exact hd
  con := fun y hy hm => by
    rcases List.mem_append.1 hy with hy | hy <;> rcases List.mem_append.1 hm with hm | hm
    · exact h.con y hy hm
    · have e := List.mem_singleton.1 hm
      exact hn (by rw [← e, Int.neg_neg]; exact hy)
    · rw [List.mem_singleton.1 hy] at hm; exact hn hm
    · have e1 := List.mem_singleton.1 hy
      have e2 := List.mem_singleton.1 hm
      omega
  nz := fun y hy => by
    rcases List.mem_append.1 hy with hy | hy
    · exact h.nz y hy
    · rw [List.mem_singleton.1 hy]; exact h0

/-- How many are still to come. -/
def still (L : List (List Int)) (T : List Int) : Nat := (L.flatten.filter fun x => decide (x ∉ T)).length

theorem still_le (L : List (List Int)) (T : List Int) : still L T ≤ L.flatten.length := List.length_filter_le ..

theorem filter_lt : ∀ {U T : List Int} {x : Int}, x ∈ U → x ∉ T → (U.filter fun y => decide (y ∉ T ++ [x])).length < (U.filter fun y => decide (y ∉ T)).length
  | [], _, _, h, _ => by cases h
  | u :: U, T, x, h, hx => by
    have hle : (U.filter fun y => decide (y ∉ T ++ [x])).length ≤ (U.filter fun y => decide (y ∉ T)).length := by
      have e : (U.filter fun y => decide (y ∉ T ++ [x])) = (U.filter fun y => decide (y ∉ T)).filter fun y => decide (y ≠ x) := by
        rw [List.filter_filter]
        apply List.filter_congr
        intro y _
        simp [List.mem_append, not_or, Bool.and_comm]
      rw [e]; exact List.length_filter_le ..
    by_cases hu : u = x
    · subst hu
      rw [List.filter_cons, List.filter_cons, if_neg (by simp), if_pos (by simpa using hx)]
      simp only [List.length_cons]; omega
    · have hm : x ∈ U := by
        rcases List.mem_cons.1 h with h | h
        · exact absurd h.symm hu
        · exact h
      have ih := filter_lt hm hx
      rw [List.filter_cons, List.filter_cons]
      by_cases ht : u ∈ T
      · rw [if_neg (by simp [ht]), if_neg (by simp [ht])]; exact ih
      · rw [if_pos (by simp [ht, hu]), if_pos (by simp [ht])]
        simp only [List.length_cons]; omega

theorem still_lt {L : List (List Int)} {T : List Int} {c : List Int} {x : Int} (hc : c ∈ L) (hx : x ∈ c) (hn : x ∉ T) : still L (T ++ [x]) < still L T :=
  filter_lt (List.mem_flatten.2 ⟨c, hc, hx⟩) hn

/-! ### the document's way -/

end Go.Lw
end

/-! What follows from clauses: the program's way, plain lists. -/
section
namespace Go.Lw

/-- A clause is asked: what must be, put in; none: all of it is not so. -/
def mustT (T c : List Int) : Option (List Int) :=
  if c.any (fun n => decide (n ∈ T)) then some [] else
    match c.filter (fun n => decide (n ∉ T ∧ -n ∉ T)) with
    | [] => none
    | [x] => some [x]
    | _ => some []

theorem must_ok {L : List (List Int)} {S T c d : List Int} (hT : SoOk L S T) (hc : c ∈ L) (hd : ∀ x, x ∈ d ↔ x ∈ c) (hnd : d.Nodup) (h0 : ∀ n ∈ c, n ≠ 0) :
    match mustT T d with
    | none => Conf L S
    | some N => SoOk L S (T ++ N) ∧ (N = [] ∨ ∃ x, N = [x] ∧ x ∈ c ∧ x ∉ T ∧ -x ∉ T) ∧ ∀ x ∈ c, (∀ y ∈ c, y ≠ x → -y ∈ T) → x ∈ T ++ N := by
  unfold mustT
  by_cases ha : d.any (fun n => decide (n ∈ T)) = true
  · rw [if_pos ha]
    refine ⟨by rw [List.append_nil]; exact hT, .inl rfl, fun x hx hall => ?_⟩
    obtain ⟨z, hz, ht⟩ := List.any_eq_true.1 ha
    have ht : z ∈ T := by simpa using ht
    rw [List.append_nil]
    by_cases he : z = x
    · rw [← he]; exact ht
    · exact absurd (hall z ((hd z).1 hz) he) (hT.con z ht)
  · rw [if_neg ha]
    have hno : ∀ n ∈ c, n ∉ T := fun n hn ht => ha (List.any_eq_true.2 ⟨n, (hd n).2 hn, decide_eq_true ht⟩)
    have hmem : ∀ x, x ∈ d.filter (fun n => decide (n ∉ T ∧ -n ∉ T)) ↔ x ∈ c ∧ x ∉ T ∧ -x ∉ T := fun x => by
      rw [List.mem_filter, hd, decide_eq_true_eq]
    have hndf : (d.filter (fun n => decide (n ∉ T ∧ -n ∉ T))).Nodup := hnd.filter _
    generalize d.filter (fun n => decide (n ∉ T ∧ -n ∉ T)) = u at *
    have hneg : ∀ y ∈ c, y ∉ u → -y ∈ T := fun y hy hn => Classical.byContradiction fun h => hn ((hmem y).2 ⟨hy, hno y hy, h⟩)
    match u, hmem, hndf, hneg with
    | [], hmem, _, hneg => exact .inr ⟨c, hc, fun y hy => hT.der _ (hneg y hy (by simp))⟩
    | [x], hmem, _, hneg =>
      have hx := (hmem x).1 (by simp)
      refine ⟨hT.add (.unit hc hx.1 fun y hy hne => hT.der _ (hneg y hy (by simpa using hne))) hx.2.2 (h0 _ hx.1), .inr ⟨x, rfl, hx⟩, fun y hy hall => ?_⟩
      by_cases he : x = y
      · rw [← he]; simp
      · exact absurd (hall x hx.1 he) hx.2.2
    | x :: y :: u, hmem, hndf, _ =>
      have hx := (hmem x).1 (by simp)
      have hy := (hmem y).1 (by simp)
      refine ⟨by rw [List.append_nil]; exact hT, .inl rfl, fun z hz hall => ?_⟩
      have hne : x ≠ y := fun e => by
        subst e
        simp at hndf
      by_cases he : x = z
      · exact absurd (hall y hy.1 (fun e => hne (he.trans e.symm))) hy.2.2
      · exact absurd (hall x hx.1 he) hx.2.2

/-- A clause of the list as it is kept. -/
structure Kept (L : List (List Int)) (d c : List Int) : Prop where
  mem : c ∈ L
  same : ∀ x, x ∈ d ↔ x ∈ c
  nodup : d.Nodup

/-- All clauses that a number that has been looked at concerns have been asked. -/
structure Watch (L : List (List Int)) (T P : List Int) : Prop where
  two : ∀ c ∈ L, ∀ x ∈ c, (∃ y ∈ c, y ≠ x) → (∀ y ∈ c, y ≠ x → -y ∈ P) → x ∈ T
  one : ∀ c ∈ L, ∀ x ∈ c, (∀ y ∈ c, y = x) → x ∈ T
  some : ∀ c ∈ L, c ≠ []

theorem watch_end {L : List (List Int)} {S T P : List Int} (hT : SoOk L S T) (hw : Watch L T P) (hP : ∀ x ∈ T, x ∈ P) : ¬ Conf L S :=
  closed_no hT.has hT.con hw.some fun c hc x hx hall => by
    by_cases he : ∃ y ∈ c, y ≠ x
    · exact hw.two c hc x hx he fun y hy hne => hP _ (hall y hy hne)
    · exact hw.one c hc x hx fun y hy => Classical.byContradiction fun hne => he ⟨y, hy, hne⟩

/-- One number looked at: all clauses that have its opposite are asked. -/
theorem watch_step {L : List (List Int)} {T P N : List Int} {n : Int} {ds : List (List Int)} (hw : Watch L T P) (hP : ∀ x ∈ P, x ∈ T) (hn : n ∈ T) (hall : ∀ c ∈ L, -n ∈ c → ∃ d ∈ ds, ∀ x, x ∈ d ↔ x ∈ c)
    (hs : ∀ d ∈ ds, ∀ x ∈ d, (∀ y ∈ d, y ≠ x → -y ∈ T) → x ∈ T ++ N) : Watch L (T ++ N) (n :: P) where
  two := fun c hc x hx he hy => by
    by_cases hm : -n ∈ c
    · obtain ⟨d, hd, hsame⟩ := hall c hc hm
      refine hs d hd x ((hsame x).2 hx) fun y hyd hne => ?_
      rcases List.mem_cons.1 (hy y ((hsame y).1 hyd) hne) with h | h
      · rw [h]; exact hn
      · exact hP _ h
    · refine List.mem_append.2 (.inl (hw.two c hc x hx he fun y hyc hne => ?_))
      rcases List.mem_cons.1 (hy y hyc hne) with h | h
      · have : y = -n := by omega
        rw [this] at hyc
        exact absurd hyc hm
      · exact h
  one := fun c hc x hx h => List.mem_append.2 (.inl (hw.one c hc x hx h))
  some := hw.some

end Go.Lw
end
