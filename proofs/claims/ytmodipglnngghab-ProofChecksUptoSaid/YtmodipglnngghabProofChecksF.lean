/-
  The texts that the proof stands on, part 6.
-/
import Derived.Test.YtmodipglnngghabProofChecksE
set_option linter.unusedVariables false
set_option linter.unusedSimpArgs false
set_option linter.unnecessarySimpa false

/-! What follows from clauses by putting in what must be: plain lists. -/
section
namespace Go.Lw

/-- What must be, of clauses and of what is so. -/
inductive Der (L : List (List Int)) (S : List Int) : Int → Prop
  | base {x : Int} : x ∈ S → Der L S x
  | unit {c : List Int} {x : Int} : c ∈ L → x ∈ c → (∀ y ∈ c, y ≠ x → Der L S (-y)) → Der L S x

def Conf (L : List (List Int)) (S : List Int) : Prop := (∃ x, Der L S x ∧ Der L S (-x)) ∨ ∃ c ∈ L, ∀ y ∈ c, Der L S (-y)

/-- Nothing more comes of it. -/
theorem closed_no {L : List (List Int)} {S T : List Int} (hS : ∀ x ∈ S, x ∈ T) (hc : ∀ x ∈ T, -x ∉ T) (hz : ∀ c ∈ L, c ≠ []) (hu : ∀ c ∈ L, ∀ x ∈ c, (∀ y ∈ c, y ≠ x → -y ∈ T) → x ∈ T) : ¬ Conf L S := by
  have hd : ∀ x, Der L S x → x ∈ T := fun x h => by
    induction h with
    | base h => exact hS _ h
    | unit h1 h2 _ ih => exact hu _ h1 _ h2 ih
  rintro (⟨x, h1, h2⟩ | ⟨c, h1, h2⟩)
  · exact hc _ (hd _ h1) (hd _ h2)
  · cases c with
    | nil => exact hz _ h1 rfl
    | cons x c =>
      have hx := hu _ h1 x (List.mem_cons_self ..) fun y hy _ => hd _ (h2 y hy)
      exact hc _ hx (hd _ (h2 x (List.mem_cons_self ..)))

/-- What is known on the way. -/
structure SoOk (L : List (List Int)) (S T : List Int) : Prop where
  has : ∀ x ∈ S, x ∈ T
  der : ∀ x ∈ T, Der L S x
  con : ∀ x ∈ T, -x ∉ T
  nz : ∀ x ∈ T, x ≠ 0

theorem SoOk.add {L : List (List Int)} {S T : List Int} (h : SoOk L S T) {x : Int} (hd : Der L S x) (hn : -x ∉ T) (h0 : x ≠ 0) : SoOk L S (T ++ [x]) where
  has := fun y hy => List.mem_append.2 (.inl (h.has y hy))
  der := fun y hy => by
    rcases List.mem_append.1 hy with hy | hy
    · exact h.der y hy
    · rw [List.mem_singleton.1 hy]; exact hd
  con := fun y hy hm => by
    rcases List.mem_append.1 hy with hy | hy <;> rcases List.mem_append.1 hm with hm | hm
    · exact h.con y hy hm
    · have e := List.mem_singleton.1 hm
      exact hn (by rw [← e, Int.neg_neg]; exact hy)
    · rw [List.mem_singleton.1 hy] at hm; exact hn hm
    · have e1 := List.mem_singleton.1 hy
      have e2 := List.mem_singleton.1 hm
      omega
  nz := fun y hy => by
    rcases List.mem_append.1 hy with hy | hy
    · exact h.nz y hy
    · rw [List.mem_singleton.1 hy]; exact h0

/-- How many are still to come. -/
def still (L : List (List Int)) (T : List Int) : Nat := (L.flatten.filter fun x => decide (x ∉ T)).length

theorem still_le (L : List (List Int)) (T : List Int) : still L T ≤ L.flatten.length := List.length_filter_le ..

theorem filter_lt : ∀ {U T : List Int} {x : Int}, x ∈ U → x ∉ T → (U.filter fun y => decide (y ∉ T ++ [x])).length < (U.filter fun y => decide (y ∉ T)).length
  | [], _, _, h, _ => by cases h
  | u :: U, T, x, h, hx => by
    have hle : (U.filter fun y => decide (y ∉ T ++ [x])).length ≤ (U.filter fun y => decide (y ∉ T)).length := by
      have e : (U.filter fun y => decide (y ∉ T ++ [x])) = (U.filter fun y => decide (y ∉ T)).filter fun y => decide (y ≠ x) := by
        rw [List.filter_filter]
        apply List.filter_congr
        intro y _
        simp [List.mem_append, not_or, Bool.and_comm]
      rw [e]; exact List.length_filter_le ..
    by_cases hu : u = x
    · subst hu
      rw [List.filter_cons, List.filter_cons, if_neg (by simp), if_pos (by simpa using hx)]
      simp only [List.length_cons]; omega
    · have hm : x ∈ U := by
        rcases List.mem_cons.1 h with h | h
        · exact absurd h.symm hu
        · exact h
      have ih := filter_lt hm hx
      rw [List.filter_cons, List.filter_cons]
      by_cases ht : u ∈ T
      · rw [if_neg (by simp [ht]), if_neg (by simp [ht])]; exact ih
      · rw [if_pos (by simp [ht, hu]), if_pos (by simp [ht])]
        simp only [List.length_cons]; omega

theorem still_lt {L : List (List Int)} {T : List Int} {c : List Int} {x : Int} (hc : c ∈ L) (hx : x ∈ c) (hn : x ∉ T) : still L (T ++ [x]) < still L T :=
  filter_lt (List.mem_flatten.2 ⟨c, hc, hx⟩) hn

/-! ### the document's way -/

/-- One clause looked at: what is left, of how many, and whether one is so. -/
def scanF (T : List Int) : Int × Nat × Bool → List Int → Int × Nat × Bool
  | r, [] => r
  | (l, m, f), n :: c => scanF T (if n ∉ T ∧ -n ∉ T ∧ n ≠ l then n else l, if n ∉ T ∧ -n ∉ T ∧ n ≠ l then m + 1 else m, f || decide (n ∈ T)) c

def free (T : List Int) (n : Int) : Prop := n ∉ T ∧ -n ∉ T

structure Scan (T p : List Int) (r : Int × Nat × Bool) : Prop where
  fine : r.2.2 = true ↔ ∃ n ∈ p, n ∈ T
  zero : r.2.1 = 0 → r.1 = 0 ∧ ∀ y ∈ p, ¬ free T y
  one : r.2.1 = 1 → r.1 ∈ p ∧ free T r.1 ∧ ∀ y ∈ p, y ≠ r.1 → ¬ free T y
  more : 2 ≤ r.2.1 → ∃ y ∈ p, ∃ z ∈ p, y ≠ z ∧ free T y ∧ free T z
  left : r.2.1 ≠ 0 → r.1 ∈ p ∧ free T r.1

theorem scan_ok {T : List Int} : ∀ {c p : List Int} {r : Int × Nat × Bool}, Scan T p r → (∀ n ∈ c, n ≠ 0) → Scan T (p ++ c) (scanF T r c)
  | [], p, r, h, _ => by rw [List.append_nil]; exact h
  | n :: c, p, (l, m, f), h, h0 => by
    rw [scanF, List.append_cons]
    refine scan_ok ?_ fun y hy => h0 y (List.mem_cons_of_mem _ hy)
    have hn0 := h0 n (List.mem_cons_self ..)
    have mem : ∀ {y : Int}, y ∈ p → y ∈ p ++ [n] := fun hy => List.mem_append.2 (.inl hy)
    have mem2 : n ∈ p ++ [n] := List.mem_append.2 (.inr (List.mem_singleton.2 rfl))
    have hfine : (f || decide (n ∈ T)) = true ↔ ∃ y ∈ p ++ [n], y ∈ T := by
      rw [Bool.or_eq_true, decide_eq_true_eq]
      constructor
      · rintro (hf | hf)
        · obtain ⟨y, hy, ht⟩ := h.fine.1 hf
          exact ⟨y, mem hy, ht⟩
        · exact ⟨n, mem2, hf⟩
      · rintro ⟨y, hy, ht⟩
        rcases List.mem_append.1 hy with hy | hy
        · exact .inl (h.fine.2 ⟨y, hy, ht⟩)
        · rw [List.mem_singleton.1 hy] at ht; exact .inr ht
    by_cases hc : n ∉ T ∧ -n ∉ T ∧ n ≠ l
    · rw [if_pos hc, if_pos hc]
      refine ⟨hfine, fun e => absurd e (by simp), fun e => ?_, fun e => ?_, fun _ => ⟨mem2, hc.1, hc.2.1⟩⟩
      · have hm : m = 0 := by simpa using e
        have hz := h.zero hm
        refine ⟨mem2, ⟨hc.1, hc.2.1⟩, fun y hy hne => ?_⟩
        rcases List.mem_append.1 hy with hy | hy
        · exact hz.2 y hy
        · exact absurd (List.mem_singleton.1 hy) hne
      · have hm : m ≠ 0 := by simp only at e; omega
        have hl := h.left hm
        exact ⟨l, mem hl.1, n, mem2, fun e => hc.2.2 e.symm, hl.2, hc.1, hc.2.1⟩
    · rw [if_neg hc, if_neg hc]
      have hnf : n ≠ l → ¬ free T n := fun hne hf => hc ⟨hf.1, hf.2, hne⟩
      refine ⟨hfine, fun e => ?_, fun e => ?_, fun e => ?_, fun e => ?_⟩
      · have hz := h.zero e
        have hl : l = 0 := hz.1
        refine ⟨hl, fun y hy => ?_⟩
        rcases List.mem_append.1 hy with hy | hy
        · exact hz.2 y hy
        · rw [List.mem_singleton.1 hy]; exact hnf (by rw [hl]; exact hn0)
      · have hz := h.one e
        refine ⟨mem hz.1, hz.2.1, fun y hy hne => ?_⟩
        rcases List.mem_append.1 hy with hy | hy
        · exact hz.2.2 y hy hne
        · rw [List.mem_singleton.1 hy] at hne ⊢; exact hnf hne
      · obtain ⟨y, hy, z, hz, h1⟩ := h.more e
        exact ⟨y, mem hy, z, mem hz, h1⟩
      · have := h.left e
        exact ⟨mem this.1, this.2⟩

theorem scan_start {T : List Int} : Scan T [] (0, 0, false) :=
  ⟨by simp, fun _ => ⟨rfl, by simp⟩, fun h => by simp at h, fun h => by simp at h, fun h => absurd rfl h⟩

theorem scan_all {T c : List Int} (h0 : ∀ n ∈ c, n ≠ 0) : Scan T c (scanF T (0, 0, false) c) := by
  have := scan_ok (T := T) scan_start h0
  rwa [List.nil_append] at this

/-- All clauses looked at once; none: one is not so, whatever comes. -/
def passF (T : List Int) : List (List Int) → Option (List Int)
  | [] => some T
  | c :: L => if (scanF T (0, 0, false) c).2.2 then passF T L else if (scanF T (0, 0, false) c).2.1 = 0 then none
    else if (scanF T (0, 0, false) c).2.1 = 1 then passF (T ++ [(scanF T (0, 0, false) c).1]) L else passF T L

/-- What a look at a clause that is not so comes to. -/
theorem scan_der {L : List (List Int)} {S T c : List Int} (hT : SoOk L S T) (hc : c ∈ L) (h0 : ∀ n ∈ c, n ≠ 0) (hf : (scanF T (0, 0, false) c).2.2 = false) :
    ((scanF T (0, 0, false) c).2.1 = 0 → Conf L S) ∧ ((scanF T (0, 0, false) c).2.1 = 1 → SoOk L S (T ++ [(scanF T (0, 0, false) c).1]) ∧ (scanF T (0, 0, false) c).1 ∈ c ∧ (scanF T (0, 0, false) c).1 ∉ T) := by
  have hs := scan_all (T := T) h0
  generalize scanF T (0, 0, false) c = r at *
  have hno : ∀ n ∈ c, n ∉ T := fun n hn ht => by
    have := hs.fine.2 ⟨n, hn, ht⟩
    rw [hf] at this; cases this
  have hneg : ∀ y ∈ c, ¬ free T y → Der L S (-y) := fun y hy hn => hT.der _ (Classical.byContradiction fun h => hn ⟨hno y hy, h⟩)
  refine ⟨fun h => .inr ⟨c, hc, fun y hy => hneg y hy ((hs.zero h).2 y hy)⟩, fun h => ?_⟩
  obtain ⟨h1, h2, h3⟩ := hs.one h
  exact ⟨hT.add (.unit hc h1 fun y hy hne => hneg y hy (h3 y hy hne)) h2.2 (h0 _ h1), h1, h2.1⟩

theorem pass_ok {L : List (List Int)} {S : List Int} (h0 : ∀ c ∈ L, ∀ n ∈ c, n ≠ 0) : ∀ {l : List (List Int)} {T : List Int}, (∀ c ∈ l, c ∈ L) → SoOk L S T →
    match passF T l with
    | none => Conf L S
    | some T2 => SoOk L S T2 ∧ (∀ x ∈ T, x ∈ T2) ∧ (T2 ≠ T → still L T2 < still L T) ∧ T2.length + still L T2 ≤ T.length + still L T ∧ T.length ≤ T2.length
  | [], T, _, hT => by
    rw [passF]
    exact ⟨hT, fun _ h => h, fun h => absurd rfl h, Nat.le_refl _, Nat.le_refl _⟩
  | c :: l, T, hl, hT => by
    have hc := hl c (List.mem_cons_self ..)
    have hl' : ∀ d ∈ l, d ∈ L := fun d hd => hl d (List.mem_cons_of_mem _ hd)
    have ih := pass_ok h0 hl' hT
    rw [passF]
    by_cases hf : (scanF T (0, 0, false) c).2.2 = true
    · rw [if_pos hf]; exact ih
    · rw [if_neg hf]
      obtain ⟨d0, d1⟩ := scan_der hT hc (h0 c hc) (by simpa using hf)
      by_cases h1 : (scanF T (0, 0, false) c).2.1 = 0
      · rw [if_pos h1]; exact d0 h1
      · rw [if_neg h1]
        by_cases h2 : (scanF T (0, 0, false) c).2.1 = 1
        · rw [if_pos h2]
          obtain ⟨e1, e2, e3⟩ := d1 h2
          have ih2 := pass_ok h0 hl' e1
          have hlt := still_lt hc e2 e3
          generalize (scanF T (0, 0, false) c).1 = x at *
          generalize passF (T ++ [x]) l = r at *
          cases r with
          | none => exact ih2
          | some T2 =>
            obtain ⟨g1, g2, g3, g4, g5⟩ := ih2
            have hle : still L T2 ≤ still L (T ++ [x]) := by
              by_cases he : T2 = T ++ [x]
              · rw [he]; exact Nat.le_refl _
              · exact Nat.le_of_lt (g3 he)
            rw [List.length_append, List.length_singleton] at g4 g5
            exact ⟨g1, fun y hy => g2 y (List.mem_append.2 (.inl hy)), fun _ => by omega, by omega, by omega⟩
        · rw [if_neg h2]; exact ih

/-- If nothing has changed, all clauses have been looked at by what was so. -/
theorem pass_same : ∀ {l : List (List Int)} {T : List Int}, (∀ T2, passF T l = some T2 → T.length ≤ T2.length) → passF T l = some T → (∀ c ∈ l, ∀ n ∈ c, n ≠ 0) →
    ∀ c ∈ l, (scanF T (0, 0, false) c).2.2 = true ∨ 2 ≤ (scanF T (0, 0, false) c).2.1
  | [], _, _, _, _, c, hc => by cases hc
  | c :: l, T, hg, hp, h0, d, hd => by
    have grow : ∀ {l : List (List Int)} {T T2 : List Int}, passF T l = some T2 → T.length ≤ T2.length := fun {l} => by
      induction l with
      | nil => intro T T2 h; rw [passF] at h; cases h; exact Nat.le_refl _
      | cons c l ih =>
        intro T T2 h
        rw [passF] at h
        split at h
        · exact ih h
        · split at h
          · cases h
          · split at h
            · have := ih h
              rw [List.length_append] at this; omega
            · exact ih h
    rw [passF] at hp
    have key : passF T l = some T ∧ ((scanF T (0, 0, false) c).2.2 = true ∨ 2 ≤ (scanF T (0, 0, false) c).2.1) := by
      split at hp
      · rename_i h; exact ⟨hp, .inl h⟩
      · split at hp
        · cases hp
        · split at hp
          · have := grow hp
            rw [List.length_append, List.length_singleton] at this; omega
          · exact ⟨hp, .inr (by omega)⟩
    rcases List.mem_cons.1 hd with rfl | hd
    · exact key.2
    · exact pass_same (fun T2 h => grow h) key.1 (fun c hc => h0 c (List.mem_cons_of_mem _ hc)) d hd

theorem pass_end {L : List (List Int)} {S T : List Int} (h0 : ∀ c ∈ L, ∀ n ∈ c, n ≠ 0) (hT : SoOk L S T) (hp : passF T L = some T) : ¬ Conf L S := by
  have hs := pass_same (fun T2 h => by
    have := pass_ok h0 (fun _ h => h) hT
    rw [h] at this
    exact this.2.2.2.2) hp h0
  refine closed_no hT.has hT.con (fun c hc he => ?_) (fun c hc x hx hall => ?_)
  · subst he
    rcases hs [] hc with h | h <;> simp [scanF] at h
  · have hsc := scan_all (T := T) (h0 c hc)
    rcases hs c hc with h | h
    · obtain ⟨n, hn, ht⟩ := hsc.fine.1 h
      by_cases he : n = x
      · rw [← he]; exact ht
      · exact absurd (hall n hn he) (hT.con n ht)
    · obtain ⟨y, hy, z, hz, hne, fy, fz⟩ := hsc.more h
      by_cases he : y = x
      · exact absurd (hall z hz (fun e => hne (he.trans e.symm))) fz.2
      · exact absurd (hall y hy he) fy.2

end Go.Lw
end

/-! What follows from clauses: the program's way, plain lists. -/
section
namespace Go.Lw

/-- A clause is asked: what must be, put in; none: all of it is not so. -/
def mustT (T c : List Int) : Option (List Int) :=
  if c.any (fun n => decide (n ∈ T)) then some [] else
    match c.filter (fun n => decide (n ∉ T ∧ -n ∉ T)) with
    | [] => none
    | [x] => some [x]
    | _ => some []

theorem must_ok {L : List (List Int)} {S T c d : List Int} (hT : SoOk L S T) (hc : c ∈ L) (hd : ∀ x, x ∈ d ↔ x ∈ c) (hnd : d.Nodup) (h0 : ∀ n ∈ c, n ≠ 0) :
    match mustT T d with
    | none => Conf L S
    | some N => SoOk L S (T ++ N) ∧ (N = [] ∨ ∃ x, N = [x] ∧ x ∈ c ∧ x ∉ T ∧ -x ∉ T) ∧ ∀ x ∈ c, (∀ y ∈ c, y ≠ x → -y ∈ T) → x ∈ T ++ N := by
  unfold mustT
  by_cases ha : d.any (fun n => decide (n ∈ T)) = true
  · rw [if_pos ha]
    refine ⟨by rw [List.append_nil]; exact hT, .inl rfl, fun x hx hall => ?_⟩
    obtain ⟨z, hz, ht⟩ := List.any_eq_true.1 ha
    have ht : z ∈ T := by simpa using ht
    rw [List.append_nil]
    by_cases he : z = x
    · rw [← he]; exact ht
    · exact absurd (hall z ((hd z).1 hz) he) (hT.con z ht)
  · rw [if_neg ha]
    have hno : ∀ n ∈ c, n ∉ T := fun n hn ht => ha (List.any_eq_true.2 ⟨n, (hd n).2 hn, decide_eq_true ht⟩)
    have hmem : ∀ x, x ∈ d.filter (fun n => decide (n ∉ T ∧ -n ∉ T)) ↔ x ∈ c ∧ x ∉ T ∧ -x ∉ T := fun x => by
      rw [List.mem_filter, hd, decide_eq_true_eq]
    have hndf : (d.filter (fun n => decide (n ∉ T ∧ -n ∉ T))).Nodup := hnd.filter _
    generalize d.filter (fun n => decide (n ∉ T ∧ -n ∉ T)) = u at *
    have hneg : ∀ y ∈ c, y ∉ u → -y ∈ T := fun y hy hn => Classical.byContradiction fun h => hn ((hmem y).2 ⟨hy, hno y hy, h⟩)
    match u, hmem, hndf, hneg with
    | [], hmem, _, hneg => exact .inr ⟨c, hc, fun y hy => hT.der _ (hneg y hy (by simp))⟩
    | [x], hmem, _, hneg =>
      have hx := (hmem x).1 (by simp)
      refine ⟨hT.add (.unit hc hx.1 fun y hy hne => hT.der _ (hneg y hy (by simpa using hne))) hx.2.2 (h0 _ hx.1), .inr ⟨x, rfl, hx⟩, fun y hy hall => ?_⟩
      by_cases he : x = y
      · rw [← he]; simp
      · exact absurd (hall x hx.1 he) hx.2.2
    | x :: y :: u, hmem, hndf, _ =>
      have hx := (hmem x).1 (by simp)
      have hy := (hmem y).1 (by simp)
      refine ⟨by rw [List.append_nil]; exact hT, .inl rfl, fun z hz hall => ?_⟩
      have hne : x ≠ y := fun e => by
        subst e
        simp at hndf
      by_cases he : x = z
      · exact absurd (hall y hy.1 (fun e => hne (he.trans e.symm))) hy.2.2
      · exact absurd (hall x hx.1 he) hx.2.2

/-- A clause of the list as it is kept. -/
structure Kept (L : List (List Int)) (d c : List Int) : Prop where
  mem : c ∈ L
  same : ∀ x, x ∈ d ↔ x ∈ c
  nodup : d.Nodup

/-- All clauses that a number that has been looked at concerns have been asked. -/
structure Watch (L : List (List Int)) (T P : List Int) : Prop where
  two : ∀ c ∈ L, ∀ x ∈ c, (∃ y ∈ c, y ≠ x) → (∀ y ∈ c, y ≠ x → -y ∈ P) → x ∈ T
  one : ∀ c ∈ L, ∀ x ∈ c, (∀ y ∈ c, y = x) → x ∈ T
  some : ∀ c ∈ L, c ≠ []

theorem watch_end {L : List (List Int)} {S T P : List Int} (hT : SoOk L S T) (hw : Watch L T P) (hP : ∀ x ∈ T, x ∈ P) : ¬ Conf L S :=
  closed_no hT.has hT.con hw.some fun c hc x hx hall => by
    by_cases he : ∃ y ∈ c, y ≠ x
    · exact hw.two c hc x hx he fun y hy hne => hP _ (hall y hy hne)
    · exact hw.one c hc x hx fun y hy => Classical.byContradiction fun hne => he ⟨y, hy, hne⟩

/-- One number looked at: all clauses that have its opposite are asked. -/
theorem watch_step {L : List (List Int)} {T P N : List Int} {n : Int} {ds : List (List Int)} (hw : Watch L T P) (hP : ∀ x ∈ P, x ∈ T) (hn : n ∈ T) (hall : ∀ c ∈ L, -n ∈ c → ∃ d ∈ ds, ∀ x, x ∈ d ↔ x ∈ c)
    (hs : ∀ d ∈ ds, ∀ x ∈ d, (∀ y ∈ d, y ≠ x → -y ∈ T) → x ∈ T ++ N) : Watch L (T ++ N) (n :: P) where
  two := fun c hc x hx he hy => by
    by_cases hm : -n ∈ c
    · obtain ⟨d, hd, hsame⟩ := hall c hc hm
      refine hs d hd x ((hsame x).2 hx) fun y hyd hne => ?_
      rcases List.mem_cons.1 (hy y ((hsame y).1 hyd) hne) with h | h
      · rw [h]; exact hn
      · exact hP _ h
    · refine List.mem_append.2 (.inl (hw.two c hc x hx he fun y hyc hne => ?_))
      rcases List.mem_cons.1 (hy y hyc hne) with h | h
      · have : y = -n := by omega
        rw [this] at hyc
        exact absurd hyc hm
      · exact h
  one := fun c hc x hx h => List.mem_append.2 (.inl (hw.one c hc x hx h))
  some := hw.some

end Go.Lw
end
