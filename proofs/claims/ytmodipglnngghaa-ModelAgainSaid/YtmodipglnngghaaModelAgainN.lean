/-
  The texts that the proof stands on, part 14.
-/
import Derived.Test.YtmodipglnngghaaModelAgainM
import Derived.OpenShut
import Derived.Carry
import Derived.Deep.Slices
import Derived.SizedLaws
set_option linter.unusedVariables false
set_option linter.unusedSimpArgs false
set_option linter.unnecessarySimpa false

/-! What is handed in from outside, opened: whatever the arguments are, they stand for values of the machine. -/
section
namespace Go.Lw
open Go Go.RowKit Go.ChangeShapes Go.WideShapes Go.Deep

/-- What a cell may hold. -/
inductive CS where
  | int
  | bool
  | str
  | slice (g : Bool) (bytes : Nat) (l : List CS)

mutual
def csOk : CS → PV → Prop
  | .int, p => ∃ n, p = .int .i64 n ∧ -9223372036854775808 ≤ n ∧ n ≤ 9223372036854775807
  | .bool, p => ∃ b, p = .bool b
  | .str, p => ∃ s, p = .str s ∧ s.size ≤ reachBytes
  | .slice g bytes l, p => ∃ xs, p = .sl false l.length xs ∧ xs.length * bytes ≤ reachBytes ∧ ∀ e ∈ xs, (g = true ∧ ∃ ps, e = .agg ps ∧ csAll l ps) ∨ (g = false ∧ csAll l [e])
def csAll : List CS → List PV → Prop
  | [], [] => True
  | c :: cs, p :: ps => csOk c p ∧ csAll cs ps
  | _, _ => False
end

/- How much there is: each value and each letter counts one. -/
mutual
def bulkP : PV → Nat
  | .str s => s.size + 1
  | .agg ps => bulkPs ps + 1
  | .sl _ _ xs => bulkPs xs + 1
  | _ => 1
def bulkPs : List PV → Nat
  | [] => 0
  | p :: r => bulkP p + bulkPs r
end

section
variable {H : Type}
mutual
def bulk : DataW H → Nat
  | .slice elems _ => bulkAll elems + 1
  | .agg parts => bulkAll parts + 1
  | .lit (.string b) => b.length + 1
  | _ => 1
def bulkAll : List (DataW H) → Nat
  | [] => 0
  | d :: r => bulk d + bulkAll r
end
end

theorem bulkP_pos (p : PV) : 1 ≤ bulkP p := by
  cases p <;> simp [bulkP]

theorem bulkPs_len : ∀ l : List PV, l.length ≤ bulkPs l
  | [] => Nat.zero_le _
  | p :: l => by
    have := bulkP_pos p
    have := bulkPs_len l
    simp only [bulkPs, List.length_cons]; omega

theorem bulkPs_append : ∀ l m : List PV, bulkPs (l ++ m) = bulkPs l + bulkPs m
  | [], m => by simp [bulkPs]
  | p :: l, m => by simp only [List.cons_append, bulkPs, bulkPs_append l m]; omega

theorem bulkPs_mem {p : PV} : ∀ {l : List PV}, p ∈ l → bulkP p ≤ bulkPs l
  | q :: l, h => by
    rcases List.mem_cons.1 h with rfl | h
    · simp only [bulkPs]; omega
    · have := bulkPs_mem h
      simp only [bulkPs]; omega

theorem bulkPs_sum {H : Type} (D : Nat → DataW H) : ∀ (xs : List PV) (n i : Nat), xs.length = n → (∀ j e, xs[j]? = some e → bulkP e ≤ bulk (D (i + j))) → bulkPs xs ≤ bulkAll ((List.range' i n).map D)
  | [], 0, i, _, _ => Nat.zero_le _
  | x :: xs, n + 1, i, hl, h => by
    have h0 := h 0 x rfl
    have hs := bulkPs_sum D xs n (i + 1) (by simpa using hl) fun j e he => by
      have := h (j + 1) e (by simpa using he)
      rwa [Nat.add_assoc, Nat.add_comm 1 j]
    simp only [bulkPs, List.range'_succ, List.map_cons, bulkAll]
    exact Nat.add_le_add h0 hs
  | [], n + 1, _, hl, _ => by simp at hl
  | _ :: _, 0, _, hl, _ => by simp at hl

theorem csAll_len : ∀ {l : List CS} {ps : List PV}, csAll l ps → ps.length = l.length
  | [], [], _ => rfl
  | _ :: _, _ :: _, h => by
    simp only [csAll] at h
    simp [csAll_len h.2]
  | [], _ :: _, h => by simp [csAll] at h
  | _ :: _, [], h => by simp [csAll] at h

theorem csAll_append : ∀ {l m : List CS} {ps qs : List PV}, csAll l ps → csAll m qs → csAll (l ++ m) (ps ++ qs)
  | [], _, [], _, _, h => h
  | _ :: _, _, _ :: _, _, h, h2 => by
    simp only [csAll] at h
    exact ⟨h.1, csAll_append h.2 h2⟩
  | [], _, _ :: _, _, h, _ => by simp [csAll] at h
  | _ :: _, _, [], _, h, _ => by simp [csAll] at h

theorem csOk_one {c : CS} {p : PV} (h : csOk c p) : p.one = true := by
  cases c <;> simp only [csOk] at h
  · obtain ⟨n, rfl, _⟩ := h; rfl
  · obtain ⟨b, rfl⟩ := h; rfl
  · obtain ⟨b, rfl, _⟩ := h; rfl
  · obtain ⟨xs, rfl, _⟩ := h; rfl

theorem csAll_one : ∀ {l : List CS} {ps : List PV}, csAll l ps → ps.all PV.one = true
  | [], [], _ => rfl
  | _ :: _, _ :: _, h => by
    simp only [csAll] at h
    simp [csOk_one h.1, csAll_one h.2]
  | [], _ :: _, h => by simp [csAll] at h
  | _ :: _, [], h => by simp [csAll] at h

theorem csAll_single {l : List CS} {p : PV} (h : csAll l [p]) : p.cells = [p] := by
  cases l with
  | nil => simp [csAll] at h
  | cons c l =>
    simp only [csAll] at h
    have h1 := h.1
    cases c <;> simp only [csOk] at h1
    · obtain ⟨n, rfl, _⟩ := h1; rfl
    · obtain ⟨b, rfl⟩ := h1; rfl
    · obtain ⟨b, rfl, _⟩ := h1; rfl
    · obtain ⟨xs, rfl, _⟩ := h1; rfl

def repN : Nat → List CS → List CS
  | 0, _ => []
  | n + 1, l => l ++ repN n l

theorem repN_len (n : Nat) (l : List CS) : (repN n l).length = n * l.length := by
  induction n with
  | zero => simp [repN]
  | succ n ih => rw [repN, List.length_append, ih, Nat.succ_mul]; omega

theorem cell_lt {w : World} {a : Addr} {v : Value} (h : w.cell? a = some v) : a.block < w.heap.size := by
  rcases Nat.lt_or_ge a.block w.heap.size with h1 | h1
  · exact h1
  · simp [World.cell?, Array.getElem?_eq_none h1] at h

def isAgg (P : Program) (t : TypeId) : Bool := match P.underlying t with | some (.struct _) | some (.array _ _) => true | _ => false

mutual
/-- The cells of a type. -/
def shape (P : Program) : Nat → TypeId → Option (List CS)
  | 0, _ => none
  | n + 1, t => match P.underlying t with
    | some .bool => some [.bool]
    | some (.int .i64) => some [.int]
    | some .string => some [.str]
    | some (.slice e) => match shape P n e with
      | some l => if P.cellsOf e = l.length ∧ (isAgg P e = true ∨ l.length = 1) ∧ 0 < l.length then some [.slice (isAgg P e) (P.bytesOf e) l] else none
      | none => none
    | some (.array k e) => match shape P n e with
      | some l => if P.cellsOf e = l.length ∧ P.cellsOf t = k * l.length then some (repN k l) else none
      | none => none
    | some (.struct fs) => match fieldsShape P n 0 fs.toList with
      | some l => if P.cellsOf t = l.length then some l else none
      | none => none
    | _ => none
def fieldsShape (P : Program) : Nat → Nat → List Field → Option (List CS)
  | 0, _, _ => none
  | _ + 1, _, [] => some []
  | n + 1, off, f :: fs => match shape P n f.type with
    | some l => if f.offset = off ∧ P.cellsOf f.type = l.length then (match fieldsShape P n (off + l.length) fs with | some r => some (l ++ r) | none => none) else none
    | none => none
end

/-- What is told of cells, one by one. -/
def Reps (fi : Nat → Option Nat) (w : World) (ps : List PV) (cs : List Value) : Prop := ps.length = cs.length ∧ ∀ (i : Nat) (p : PV) (v : Value), ps[i]? = some p → cs[i]? = some v → RepP fi (Mem.start w) w p v

section
variable {H : Type} {enc : TypeId × Value → H} {P : Program} {w : World} {sp : Nat → Bool} {held : Bool} {fi : Nat → Option Nat}

theorem Reps.append {ps qs : List PV} {cs ds : List Value} (h : Reps fi w ps cs) (k : Reps fi w qs ds) : Reps fi w (ps ++ qs) (cs ++ ds) := by
  refine ⟨by simp [h.1, k.1], fun i p v hp hv => ?_⟩
  by_cases hi : i < ps.length
  · rw [List.getElem?_append_left hi] at hp
    rw [List.getElem?_append_left (by rw [← h.1]; exact hi)] at hv
    exact h.2 i p v hp hv
  · rw [List.getElem?_append_right (by omega)] at hp
    rw [List.getElem?_append_right (by rw [← h.1]; omega)] at hv
    rw [← h.1] at hv
    exact k.2 _ p v hp hv

theorem Reps.single {p : PV} {v : Value} (h : RepP fi (Mem.start w) w p v) : Reps fi w [p] [v] := by
  refine ⟨rfl, fun i q u hq hu => ?_⟩
  cases i with
  | zero => simp at hq hu; subst hq; subst hu; exact h
  | succ i => simp at hq

theorem weightsAll_mem {e : TypeId} : ∀ {ds : List (DataW H)} {i : Nat} {d : DataW H} {b : Nat}, ds[i]? = some d → b ∈ d.weights P e → b ∈ DataW.weightsAll P e ds
  | x :: r, 0, d, b, h, hb => by
    simp at h; subst h
    rw [DataW.weightsAll]; exact List.mem_append_left _ hb
  | x :: r, i + 1, d, b, h, hb => by
    rw [DataW.weightsAll]
    exact List.mem_append_right _ (weightsAll_mem (i := i) (by simpa using h) hb)

theorem ex_list {Q : Nat → PV → Prop} : ∀ (n : Nat), (∀ i, i < n → ∃ e, Q i e) → ∃ xs : List PV, xs.length = n ∧ ∀ i e, xs[i]? = some e → Q i e
  | 0, _ => ⟨[], rfl, fun i e h => by simp at h⟩
  | n + 1, h => by
    obtain ⟨xs, hl, hx⟩ := ex_list n fun i hi => h i (by omega)
    obtain ⟨e, he⟩ := h n (by omega)
    refine ⟨xs ++ [e], by simp [hl], fun i u hu => ?_⟩
    by_cases hi : i < xs.length
    · rw [List.getElem?_append_left hi] at hu; exact hx i u hu
    · rw [List.getElem?_append_right (by omega)] at hu
      have : i = n := by
        have := (List.getElem?_eq_some_iff.1 hu).1
        simp at this; omega
      subst this
      rw [hl] at hu; simp at hu; subst hu; exact he

def TypeOk (fi : Nat → Option Nat) (enc : TypeId × Value → H) (P : Program) (w : World) (sp : Nat → Bool) (held : Bool) (t : TypeId) (l : List CS) : Prop :=
  ∀ fuel cs x, DataW.trod enc P w 0 sp held fuel t cs = some x → (∀ b ∈ x.1.weights P t, b ≤ reachBytes) → ∃ ps, csAll l ps ∧ bulkPs ps + (isAgg P t).toNat ≤ bulk x.1 ∧ Reps fi w ps cs

theorem arr_ok {e : TypeId} {l : List CS} (hok : TypeOk fi enc P w sp held e l) {m : Nat} {cs : List Value} {xs : List (DataW H × List MemPlace)}
    (hx : ∀ j, j < xs.length → DataW.trod enc P w 0 sp held m e ((cs.drop (j * l.length)).take l.length) = xs[j]?) (hw : ∀ b ∈ DataW.weightsAll P e (xs.map (·.1)), b ≤ reachBytes) :
    ∀ k i, i + k = xs.length → ∃ ps, csAll (repN k l) ps ∧ bulkPs ps ≤ bulkAll ((xs.map (·.1)).drop i) ∧ Reps fi w ps ((cs.drop (i * l.length)).take (k * l.length))
  | 0, i, _ => ⟨[], by simp [repN, csAll], by simp [bulkPs], by simp [Reps]⟩
  | k + 1, i, hi => by
    have hlt : i < xs.length := by omega
    have h1 := hx i hlt
    rw [List.getElem?_eq_getElem hlt] at h1
    obtain ⟨ps, hp, hb1, hr⟩ := hok _ _ _ h1 fun b hb => hw b (weightsAll_mem (i := i) (by simp [List.getElem?_eq_getElem hlt]) hb)
    obtain ⟨qs, hq, hb2, hs⟩ := arr_ok hok hx hw k (i + 1) (by omega)
    refine ⟨ps ++ qs, csAll_append hp hq, ?_, ?_⟩
    · rw [bulkPs_append, List.drop_eq_getElem_cons (by simpa using hlt), bulkAll]
      simp only [List.getElem_map]; omega
    have : (cs.drop (i * l.length)).take ((k + 1) * l.length) = (cs.drop (i * l.length)).take l.length ++ (cs.drop ((i + 1) * l.length)).take (k * l.length) := by
      rw [Nat.succ_mul k, Nat.add_comm (k * l.length), List.take_add, List.drop_drop, Nat.succ_mul i]
    rw [this]
    exact hr.append hs

theorem fields_ok (n : Nat) (ih : ∀ k, k ≤ n → ∀ t l, shape P k t = some l → TypeOk fi enc P w sp held t l) :
    ∀ (k : Nat) (_ : k ≤ n + 1) (fs : List Field) (off : Nat) (l : List CS), fieldsShape P k off fs = some l → ∀ (cs : List Value) (xs : List (DataW H × List MemPlace)) (m : Nat), xs.length = fs.length →
      (∀ (i : Nat) (f : Field), fs[i]? = some f → DataW.trod enc P w 0 sp held m f.type ((cs.drop f.offset).take (P.cellsOf f.type)) = xs[i]?) →
      (∀ b ∈ DataW.weightsEach P (fs.map (·.type)) (xs.map (·.1)), b ≤ reachBytes) → ∃ ps, csAll l ps ∧ bulkPs ps ≤ bulkAll (xs.map (·.1)) ∧ Reps fi w ps ((cs.drop off).take l.length)
  | 0, _, fs, off, l, h, _, _, _, _, _, _ => by simp [fieldsShape] at h
  | k + 1, _, [], off, l, h, cs, xs, m, hl, hx, hw => by
    simp [fieldsShape] at h; subst h
    exact ⟨[], by simp [csAll], by simp [bulkPs], by simp [Reps]⟩
  | k + 1, hk, f :: fs, off, l, h, cs, xs, m, hl, hx, hw => by
    cases xs with
    | nil => simp at hl
    | cons x xs =>
      rw [fieldsShape] at h
      split at h
      · rename_i l1 hs1
        split at h
        · rename_i hc
          split at h
          · rename_i r hr
            simp at h; subst h
            have h0 := hx 0 f (by simp)
            simp only [List.getElem?_cons_zero] at h0
            rw [hc.1, hc.2] at h0
            obtain ⟨ps, hp, hb1, hrp⟩ := ih k (by omega) _ _ hs1 _ _ _ h0 fun b hb => hw b (by
              simp only [List.map_cons, DataW.weightsEach]; exact List.mem_append_left _ hb)
            obtain ⟨qs, hq, hb2, hrq⟩ := fields_ok n ih k (by omega) fs (off + l1.length) r hr cs xs m (by simpa using hl) (fun i g hg => by simpa using hx (i + 1) g (by simpa using hg)) (fun b hb => hw b (by
              simp only [List.map_cons, DataW.weightsEach]; exact List.mem_append_right _ hb))
            refine ⟨ps ++ qs, csAll_append hp hq, by rw [bulkPs_append, List.map_cons, bulkAll]; omega, ?_⟩
            rw [List.length_append, List.take_add, List.drop_drop]
            exact hrp.append hrq
          · cases h
        · cases h
      · cases h

theorem shape_ok : ∀ (n : Nat) (t : TypeId) (l : List CS), shape P n t = some l → TypeOk fi enc P w sp held t l := by
  intro n
  induction n using Nat.strongRecOn with
  | ind n ih =>
  cases n with
  | zero => intro t l h; simp [shape] at h
  | succ n =>
    intro t l h fuel cs x hx hw
    rw [shape] at h
    split at h
    · rename_i ht
      simp at h; subst h
      obtain ⟨b, rfl, rfl⟩ := DataW.trod_bool ht hx
      exact ⟨[.bool b], ⟨⟨b, rfl⟩, trivial⟩, by simp [bulkPs, bulkP, bulk, isAgg, ht], Reps.single (.bool b)⟩
    · rename_i ht
      simp at h; subst h
      obtain ⟨b, rfl, rfl, hwf⟩ := DataW.trod_int ht hx
      refine ⟨[.int .i64 b], ⟨⟨b, rfl, ?_⟩, trivial⟩, by simp [bulkPs, bulkP, bulk, isAgg, ht], Reps.single (.int .i64 b)⟩
      simp [Lit.wf, IntKind.min, IntKind.max, IntKind.signed, IntKind.bits] at hwf
      omega
    · rename_i ht
      simp at h; subst h
      obtain ⟨b, rfl, rfl, _⟩ := DataW.trod_string ht hx
      refine ⟨[.str b], ⟨⟨b, rfl, ?_⟩, trivial⟩, by simp [bulkPs, bulkP, bulk, isAgg, ht], Reps.single (.str b)⟩
      have := hw b.size (by simp [DataW.weights])
      exact this
    · rename_i e ht
      split at h
      · rename_i l1 hs1
        split at h
        · rename_i hc
          simp at h; subst h
          rcases open_slice ht hx with ⟨rfl, rfl⟩ | ⟨a, len, cap, m, n', D, Pl, rfl, _, hlc, hcm, hm, rfl, hi⟩
          · refine ⟨[.sl false l1.length []], ⟨⟨[], rfl, by simp, fun e he => by simp at he⟩, trivial⟩, by simp [bulkPs, bulkP, bulk, bulkAll, isAgg, ht], Reps.single ?_⟩
            exact .sl l1.length [] none 0 0 0 (fun _ => undef) (.inl rfl) (by simp) (fun e he => by simp at he) (fun e he => by simp at he) (fun i e j p he => by simp at he) (fun i e j p he => by simp at he)
          · have hlm : len ≤ m := by rw [hm]; split <;> omega
            have hwl : len * P.bytesOf e ≤ reachBytes := by
              have := hw ((len + (m - len)) * P.bytesOf e) (by
                rw [DataW.weights, ht]; simp)
              refine Nat.le_trans (Nat.mul_le_mul_right _ ?_) this; omega
            have key : ∀ i, i < len → ∃ u, bulkP u ≤ bulk (D i) ∧ (∃ ps : List PV, u.cells = ps ∧ csAll l1 ps ∧ ((isAgg P e = true ∧ u = .agg ps) ∨ (isAgg P e = false ∧ csAll l1 [u]))) ∧
                ∀ (j : Nat) (p : PV), u.cells[j]? = some p → ∃ v, w.cell? (a.add (i * P.cellsOf e + j)) = some v ∧ RepP fi (Mem.start w) w p v := by
              intro i hil
              obtain ⟨cs', hcells, htr⟩ := hi i (by omega)
              obtain ⟨ps, hp, hb1, hr⟩ := ih n (by omega) _ _ hs1 _ _ _ htr fun b hb => hw b (by
                rw [DataW.weights, ht]
                refine List.mem_cons_of_mem _ (List.mem_append_left _ (weightsAll_mem (i := i) ?_ hb))
                simp [List.getElem?_range, hil])
              obtain ⟨_, hcl, hat⟩ := World.cells?_some hcells
              have hpl := csAll_len hp
              have hget : ∀ (j : Nat) (p : PV), ps[j]? = some p → ∃ v, w.cell? (a.add (i * P.cellsOf e + j)) = some v ∧ RepP fi (Mem.start w) w p v := by
                intro j p hj
                have hjl : j < ps.length := (List.getElem?_eq_some_iff.1 hj).1
                have hjc : j < cs'.length := by rw [← hr.1]; exact hjl
                refine ⟨cs'[j], ?_, hr.2 j p _ hj (List.getElem?_eq_getElem hjc)⟩
                rw [← Go.Deep.add_add, hat j (by omega), List.getElem?_eq_getElem hjc]
              cases hg : isAgg P e with
              | true => exact ⟨.agg ps, by rw [bulkP]; simpa [hg] using hb1, ⟨ps, rfl, hp, .inl ⟨rfl, rfl⟩⟩, hget⟩
              | false =>
                have h1 : l1.length = 1 := hc.2.1.resolve_left (by simp [hg])
                obtain ⟨p0, rfl⟩ : ∃ p0, ps = [p0] := by
                  cases ps with
                  | nil => simp at hpl; omega
                  | cons p0 ps => cases ps with
                    | nil => exact ⟨p0, rfl⟩
                    | cons q qs => simp at hpl; omega
                have hcl0 := csAll_single hp
                exact ⟨p0, by simp [bulkPs] at hb1; omega, ⟨[p0], hcl0, hp, .inr ⟨rfl, hp⟩⟩, by rw [hcl0]; exact hget⟩
            obtain ⟨xs, hxl, hxs⟩ := ex_list len key
            have hmem : ∀ u ∈ xs, ∃ i, xs[i]? = some u := fun u hu => List.getElem?_of_mem hu
            refine ⟨[.sl false l1.length xs], ⟨⟨xs, rfl, by rw [hxl]; exact hwl, fun u hu => ?_⟩, trivial⟩, ?_, Reps.single ?_⟩
            · obtain ⟨i, hiu⟩ := hmem u hu
              obtain ⟨_, ⟨ps, hcps, hall, hor⟩, _⟩ := hxs i u hiu
              rcases hor with ⟨h1, h2⟩ | ⟨h1, h2⟩
              · exact .inl ⟨h1, ps, h2, hall⟩
              · exact .inr ⟨h1, h2⟩
            · have := bulkPs_sum D xs len 0 hxl fun j e he => by
                have := (hxs j e he).1
                rwa [Nat.zero_add]
              rw [← List.range_eq_range'] at this
              simp only [bulkPs, bulkP, bulk, isAgg, ht]; simpa using this
            · have hspot : xs = [] ∨ a.spot = none := by
                cases xs with
                | nil => exact .inl rfl
                | cons u us =>
                  refine .inr ?_
                  obtain ⟨_, ⟨ps, hcps, hall, hor⟩, hcel⟩ := hxs 0 u rfl
                  have hl1 := csAll_len hall
                  by_cases hz : ps = []
                  · rw [hz] at hl1
                    have := hc.2.2
                    simp at hl1; omega
                  · obtain ⟨p, ps', rfl⟩ := List.exists_cons_of_ne_nil hz
                    obtain ⟨v, hv, _⟩ := hcel 0 p (by rw [hcps]; rfl)
                    have := World.cell?_spot hv
                    simpa [Addr.add] using this
              have hcellE : P.cellsOf e = l1.length := hc.1
              rw [show len = xs.length from hxl.symm]
              refine .sl l1.length xs (some a) cap a.block a.off (fun k => (w.cell? ⟨a.block, a.off + k, none⟩).getD undef) ?_ (by omega) (fun u hu => ?_) (fun u hu => ?_) (fun i u j p hu hp => ?_) (fun i u j p hu hp => ?_)
              · rcases hspot with h | h
                · exact .inl h
                · refine .inr ?_
                  cases a; simp at h; subst h; rfl
              · obtain ⟨i, hiu⟩ := hmem u hu
                obtain ⟨_, ⟨ps, hcps, hall, _⟩, _⟩ := hxs i u hiu
                rw [hcps]; exact csAll_len hall
              · obtain ⟨i, hiu⟩ := hmem u hu
                obtain ⟨_, ⟨ps, hcps, hall, _⟩, _⟩ := hxs i u hiu
                rw [argOk, hcps]; exact csAll_one hall
              · obtain ⟨_, _, hcel⟩ := hxs i u hu
                obtain ⟨v, hv, hrep⟩ := hcel j p hp
                rw [hcellE] at hv
                have ha : a.add (i * l1.length + j) = ⟨a.block, a.off + (i * l1.length + j), none⟩ := by
                  have hs : a.spot = none := hspot.resolve_left fun h => by rw [h] at hu; simp at hu
                  cases a; simp at hs; subst hs
                  unfold Addr.add; split
                  · rename_i h0; rw [h0]; rfl
                  · rfl
                rw [ha] at hv
                refine ⟨?_, by rw [hv]; rfl⟩
                exact cell_lt (a := ⟨a.block, a.off + (i * l1.length + j), none⟩) hv
              · obtain ⟨_, _, hcel⟩ := hxs i u hu
                obtain ⟨v, hv, hrep⟩ := hcel j p hp
                rw [hcellE] at hv
                have ha : a.add (i * l1.length + j) = ⟨a.block, a.off + (i * l1.length + j), none⟩ := by
                  have hs : a.spot = none := hspot.resolve_left fun h => by rw [h] at hu; simp at hu
                  cases a; simp at hs; subst hs
                  unfold Addr.add; split
                  · rename_i h0; rw [h0]; rfl
                  · rfl
                rw [ha] at hv
                rw [hv]; exact hrep
        · cases h
      · cases h
    · rename_i k e ht
      split at h
      · rename_i l1 hs1
        split at h
        · rename_i hc
          simp at h; subst h
          obtain ⟨xs, m, rfl, rfl, hcl, hxl, hi⟩ := DataW.trod_array ht hx
          obtain ⟨ps, hp, hb1, hr⟩ := arr_ok (ih n (by omega) _ _ hs1) (cs := cs) (xs := xs) (m := m) (fun j hj => by rw [← hc.1]; exact hi j (by omega)) (fun b hb => hw b (by rw [DataW.weights, ht]; exact hb)) k 0 (by omega)
          refine ⟨ps, hp, by rw [bulk]; simp [isAgg, ht]; simpa using hb1, ?_⟩
          rw [Nat.zero_mul, List.drop_zero, ← hc.2, ← hcl, List.take_length] at hr
          exact hr
        · cases h
      · cases h
    · rename_i fs ht
      split at h
      · rename_i l1 hs1
        split at h
        · rename_i hc
          simp at h; subst h
          obtain ⟨xs, m, rfl, rfl, hcl, hxl, hi⟩ := DataW.trod_struct ht hx
          obtain ⟨ps, hp, hb1, hr⟩ := fields_ok n (fun k hk => ih k (by omega)) n (by omega) fs.toList 0 l1 hs1 cs xs m (by simpa using hxl) (fun i f hf => hi i f (by simpa using hf)) (fun b hb => hw b (by rw [DataW.weights, ht]; exact hb))
          refine ⟨ps, hp, by rw [bulk]; simp [isAgg, ht]; simpa using hb1, ?_⟩
          rw [List.drop_zero, ← hc, ← hcl, List.take_length] at hr
          exact hr
        · cases h
      · cases h
    · cases h

/-- An argument: is it a row of cells, and which. -/
def argTy : Bool × List CS → PV → Prop
  | (true, l), p => ∃ ps, p = .agg ps ∧ csAll l ps
  | (false, l), p => csAll l [p]

def argsTy : List (Bool × List CS) → List PV → Prop
  | [], [] => True
  | c :: cs, p :: ps => argTy c p ∧ argsTy cs ps
  | _, _ => False

def shapes (P : Program) (n : Nat) : List TypeId → Option (List (Bool × List CS))
  | [] => some []
  | t :: ts => match shape P n t, shapes P n ts with
    | some l, some r => some ((isAgg P t, l) :: r)
    | _, _ => none

theorem argsTy_cons {c : Bool × List CS} {cs : List (Bool × List CS)} {qs : List PV} (h : argsTy (c :: cs) qs) : ∃ p ps, qs = p :: ps ∧ argTy c p ∧ argsTy cs ps := by
  cases qs with
  | nil => simp [argsTy] at h
  | cons p ps => exact ⟨p, ps, rfl, h⟩

theorem argsTy_nil {qs : List PV} (h : argsTy [] qs) : qs = [] := by
  cases qs with
  | nil => rfl
  | cons p ps => simp [argsTy] at h

theorem csAll_cons {c : CS} {cs : List CS} {qs : List PV} (h : csAll (c :: cs) qs) : ∃ p ps, qs = p :: ps ∧ csOk c p ∧ csAll cs ps := by
  cases qs with
  | nil => simp [csAll] at h
  | cons p ps => exact ⟨p, ps, rfl, h⟩

theorem csAll_nil {qs : List PV} (h : csAll [] qs) : qs = [] := by
  cases qs with
  | nil => rfl
  | cons p ps => simp [csAll] at h

theorem argTy_int {p : PV} (h : argTy (false, [.int]) p) : ∃ n, p = .int .i64 n ∧ -9223372036854775808 ≤ n ∧ n ≤ 9223372036854775807 := by
  obtain ⟨q, ps, e, h1, h2⟩ := csAll_cons h
  cases csAll_nil h2
  simp only [List.cons.injEq, and_true] at e
  subst e
  exact h1

theorem argTy_agg {l : List CS} {p : PV} (h : argTy (true, l) p) : ∃ ps, p = .agg ps ∧ csAll l ps := h

theorem csOk_int {p : PV} (h : csOk .int p) : ∃ n, p = .int .i64 n ∧ -9223372036854775808 ≤ n ∧ n ≤ 9223372036854775807 := h

theorem argTy_ok {c : Bool × List CS} {p : PV} (h : argTy c p) : argOk p = true := by
  obtain ⟨g, l⟩ := c
  cases g with
  | true =>
    obtain ⟨ps, rfl, h⟩ := h
    exact csAll_one h
  | false => rw [argOk, csAll_single h]; exact csAll_one h

theorem argsTy_ok : ∀ {L : List (Bool × List CS)} {ps : List PV}, argsTy L ps → ∀ p ∈ ps, argOk p = true
  | [], [], _, p, hp => by simp at hp
  | _ :: _, q :: ps, h, p, hp => by
    simp only [argsTy] at h
    rcases List.mem_cons.1 hp with rfl | hp
    · exact argTy_ok h.1
    · exact argsTy_ok h.2 p hp
  | [], _ :: _, h, _, _ => by simp [argsTy] at h
  | _ :: _, [], h, _, _ => by simp [argsTy] at h

theorem arg_ok {n : Nat} {t : TypeId} {l : List CS} (hs : shape P n t = some l) {base : Nat} {v : Value} {d : DataW H} {ps : List MemPlace} (hv : Value.okWide P w .any base t v) (hd : DataW.Trod enc P w 0 sp held t v d ps)
    (hw : ∀ b ∈ d.weights P t, b ≤ reachBytes) : ∃ p, argTy (isAgg P t, l) p ∧ bulkP p ≤ bulk d ∧ RepP fi (Mem.start w) w p v := by
  obtain ⟨fuel, hf⟩ := hd
  obtain ⟨qs, hq, hb1, hr⟩ := shape_ok (fi := fi) n t l hs fuel _ _ hf hw
  have hone : v.cells.toList = [v] → isAgg P t = false → ∃ p, argTy (isAgg P t, l) p ∧ bulkP p ≤ bulk d ∧ RepP fi (Mem.start w) w p v := by
    intro hc hg
    rw [hc] at hr
    cases qs with
    | nil => have := hr.1; simp at this
    | cons q qs => cases qs with
      | cons r qs => have := hr.1; simp at this
      | nil => exact ⟨q, by rw [hg]; exact hq, by simp [bulkPs] at hb1; omega, hr.2 0 q v rfl rfl⟩
  have hagg : (∃ cs, v = .agg cs) → isAgg P t = true → ∃ p, argTy (isAgg P t, l) p ∧ bulkP p ≤ bulk d ∧ RepP fi (Mem.start w) w p v := by
    rintro ⟨cs, rfl⟩ hg
    refine ⟨.agg qs, by rw [hg]; exact ⟨qs, rfl, hq⟩, by rw [bulkP]; simpa [hg] using hb1, ?_⟩
    obtain ⟨cl⟩ := cs
    exact .agg qs cl hr.1.symm hr.2
  cases n with
  | zero => simp [shape] at hs
  | succ n =>
    rw [shape] at hs
    split at hs
    · rename_i ht
      obtain ⟨b, rfl⟩ := okWide_bool ht hv
      exact hone rfl (by simp [isAgg, ht])
    · rename_i ht
      obtain ⟨b, rfl⟩ := okWide_int ht hv
      exact hone rfl (by simp [isAgg, ht])
    · rename_i ht
      obtain ⟨b, rfl⟩ := okWide_string ht hv
      exact hone rfl (by simp [isAgg, ht])
    · rename_i e ht
      obtain ⟨a, b, c, rfl⟩ := okWide_slice ht hv
      exact hone rfl (by simp [isAgg, ht])
    · rename_i k e ht
      refine hagg ?_ (by simp [isAgg, ht])
      simp only [Value.okWide, ht] at hv
      obtain ⟨cs, h1, _⟩ := hv
      exact ⟨cs, h1⟩
    · rename_i fs ht
      refine hagg ?_ (by simp [isAgg, ht])
      simp only [Value.okWide, ht] at hv
      obtain ⟨cs, h1, _⟩ := hv
      exact ⟨cs, h1⟩
    · cases hs


theorem args_ok {n base : Nat} : ∀ {ts : List TypeId} {L : List (Bool × List CS)} {vs : List Value} {ds : List (DataW H)} {ps : List MemPlace}, shapes P n ts = some L → DataW.TrodAll enc P w 0 sp held ts vs ds ps →
    (∀ (j : Nat) t v, ts[j]? = some t → vs[j]? = some v → Value.okWide P w .any base t v) → (∀ b ∈ DataW.weightsEach P ts ds, b ≤ reachBytes) →
    ∃ qs, argsTy L qs ∧ bulkPs qs ≤ bulkAll ds ∧ qs.length = vs.length ∧ ∀ (i : Nat) (p : PV) (v : Value), qs[i]? = some p → vs[i]? = some v → RepP fi (Mem.start w) w p v
  | [], L, vs, ds, ps, hs, ht, _, _ => by
    obtain ⟨rfl, rfl, rfl⟩ := trodAll_nil ht
    simp [shapes] at hs; subst hs
    exact ⟨[], trivial, Nat.zero_le _, rfl, fun i p v h => by simp at h⟩
  | t :: ts, L, vs, ds, ps, hs, ht, hv, hw => by
    obtain ⟨v, vs', d, ds', p, q, rfl, rfl, rfl, h1, h2⟩ := trodAll_cons ht
    simp only [shapes] at hs
    split at hs
    · rename_i l r hl hr
      simp at hs; subst hs
      obtain ⟨a, ha, hb1, hra⟩ := arg_ok (fi := fi) hl (hv 0 t v rfl rfl) h1 fun b hb => hw b (by simp only [DataW.weightsEach]; exact List.mem_append_left _ hb)
      obtain ⟨qs, hq, hb2, hl, hrq⟩ := args_ok hr h2 (fun j t v h1 h2 => hv (j + 1) t v (by simpa using h1) (by simpa using h2)) (fun b hb => hw b (by simp only [DataW.weightsEach]; exact List.mem_append_right _ hb))
      refine ⟨a :: qs, ⟨ha, hq⟩, by rw [bulkPs, bulkAll]; omega, by simp [hl], fun i p v h1 h2 => ?_⟩
      cases i with
      | zero => simp at h1 h2; subst h1; subst h2; exact hra
      | succ i => exact hrq i p v (by simpa using h1) (by simpa using h2)
    · cases hs

theorem trodAll_below {W W' : World} (hl : laidOutB P = true) (hb : Below W.heap.size W W') : ∀ {ts : List TypeId} {vs : List Value} {ds : List (DataW H)} {ps : List MemPlace},
    (ts.all fun t => P.readableRec t && decide (t < P.types.size)) = true → DataW.TrodAll enc P W 0 (fun _ => true) true ts vs ds ps → DataW.TrodAll enc P W' 0 (fun b => decide (b < W.heap.size)) true ts vs ds ps
  | [], vs, ds, ps, _, h => by
    obtain ⟨rfl, rfl, rfl⟩ := trodAll_nil h
    exact h
  | t :: ts, vs, ds, ps, hr, h => by
    obtain ⟨v, vs', d, ds', p, q, rfl, rfl, rfl, h1, h2⟩ := trodAll_cons h
    simp only [List.all_cons, Bool.and_eq_true, decide_eq_true_eq] at hr
    have lt : ∀ x ∈ p, x.block < W.heap.size := by obtain ⟨m, hm⟩ := h1; exact DataW.trod_lt m _ _ _ hm
    exact ⟨p, q, Below.trod hl hr.1.1 hr.1.2 h1 hb lt, trodAll_below hl hb hr.2 h2, rfl⟩

end
end Go.Lw
end

/-! When the machine's functions stand for the program's: asked by one check over a list of both numbers; and what a law's row needs behind it. -/
section
namespace Go.Lw
open Go Go.RowKit

/-- Function f of the machine stands for function F of the program. -/
def linkF (P : Program) (fi : Nat → Option Nat) (pg : Prg) (f F : Nat) : Bool :=
  match P.funcs[F]? with
  | some Fn => match Fn.body with
    | some c => match pg f with
      | some (.code fn) => (!(Fn.name == "runtime.NumGoroutine")) && (matchC P fi Fn.ntmps fn.body c && mRes P fn.res Fn.results.toList)
      | _ => !(Fn.name == "runtime.NumGoroutine")
    | none => false
  | none => false

def isLib (pg : Prg) (f : Nat) : Bool := match pg f with | some (.lib _) => true | _ => false

theorem linkF_ok {P : Program} {fi : Nat → Option Nat} {pg : Prg} {f F : Nat} (h : linkF P fi pg f F = true) (hl : ∀ L, pg f = some (.lib L) → ∀ vs gh r gh', L vs gh = some (r, gh') → (∀ p ∈ vs, argOk p = true) → CallOk P fi F vs gh r gh') :
    HasBody P F ∧ match pg f with
    | some (.code fn) => ∃ Fn c, P.funcs[F]? = some Fn ∧ Fn.body = some c ∧ matchC P fi Fn.ntmps fn.body c = true ∧ mRes P fn.res Fn.results.toList = true
    | some (.lib L) => ∀ vs gh r gh', L vs gh = some (r, gh') → (∀ p ∈ vs, argOk p = true) → CallOk P fi F vs gh r gh'
    | none => True := by
  unfold linkF at h
  cases hF : P.funcs[F]? with
  | none => rw [hF] at h; cases h
  | some Fn =>
    rw [hF] at h; simp only at h
    cases hc : Fn.body with
    | none => rw [hc] at h; cases h
    | some c =>
      rw [hc] at h; simp only at h
      cases hp : pg f with
      | none =>
        rw [hp] at h
        exact ⟨⟨Fn, c, hF, by simpa using h, hc⟩, trivial⟩
      | some df =>
        cases df with
        | lib L =>
          rw [hp] at h
          exact ⟨⟨Fn, c, hF, by simpa using h, hc⟩, hl L hp⟩
        | code fn =>
          rw [hp] at h
          simp only [Bool.and_eq_true, Bool.not_eq_true'] at h
          exact ⟨⟨Fn, c, hF, h.1, hc⟩, Fn, c, rfl, hc, h.2.1, h.2.2⟩

def fiOf (l : List (Nat × Nat)) (f : Nat) : Option Nat := (l.find? (·.1 == f)).map (·.2)

theorem fiOf_mem {l : List (Nat × Nat)} {f F : Nat} (h : fiOf l f = some F) : (f, F) ∈ l := by
  unfold fiOf at h
  simp only [Option.map_eq_some_iff] at h
  obtain ⟨⟨a, b⟩, h1, rfl⟩ := h
  have h2 := List.find?_some h1
  have h3 := List.mem_of_find?_eq_some h1
  simp at h2; subst h2
  exact h3

theorem link_of {P : Program} {l : List (Nat × Nat)} {pg : Prg} (h : (l.all fun x => linkF P (fiOf l) pg x.1 x.2) = true)
    (hl : ∀ f F L, (f, F) ∈ l → pg f = some (.lib L) → ∀ vs gh r gh', L vs gh = some (r, gh') → (∀ p ∈ vs, argOk p = true) → CallOk P (fiOf l) F vs gh r gh') : LinkOk P (fiOf l) pg := by
  intro f F hf
  have hm := fiOf_mem hf
  rw [List.all_eq_true] at h
  exact linkF_ok (h _ hm) (fun L => hl f F L hm)

theorem link_nolib {P : Program} {l : List (Nat × Nat)} {pg : Prg} (h : (l.all fun x => linkF P (fiOf l) pg x.1 x.2) = true) (hn : (l.all fun x => !isLib pg x.1) = true) : LinkOk P (fiOf l) pg := by
  refine link_of h fun f F L hm hp => ?_
  rw [List.all_eq_true] at hn
  have := hn _ hm
  simp [isLib, hp] at this

/-- A law's row: the call answers true, and what there was is as it was. -/
theorem row_ok_bulk {H : Type} {enc : TypeId × Value → H} {P : Program} {fi : Nat → Option Nat} {pg : Prg} (hP : P.follows .mixedOrders = true) (hL : LinkOk P fi pg) {f F n : Nat} (hf : fi f = some F) {ts : List TypeId} {L : List (Bool × List CS)}
    (hs : shapes P n ts = some L) {N : Nat} (hlaw : ∀ qs, argsTy L qs → bulkPs qs ≤ N → callL pg f qs [] = some (.bool true, [])) {W : World} {base : Nat} {args : List Value} {ds : List (DataW H)} {ps : List MemPlace}
    (hA : DataW.TrodAll enc P W 0 (fun _ => true) true ts args ds ps) (hv : ∀ (j : Nat) t v, ts[j]? = some t → args[j]? = some v → Value.okWide P W .any base t v) (hw : (DataW.weightsEach P ts ds).all (· ≤ reachBytes) = true) (hN : bulkAll ds ≤ N) :
    Calls P F args.toArray W fun e W' => e = .returned (.bool true) ∧ Below W.heap.size W W' := by
  obtain ⟨qs, hq, hbk, hl, hr⟩ := args_ok (fi := fi) hs hA hv (by simpa using hw)
  refine (top_ok hP hL (hlaw qs hq (Nat.le_trans hbk hN)) (argsTy_ok hq) hf hl.symm hr).mono ?_
  rintro e w' ⟨v, M', rfl, _, hres, h1, h2, h3, h4, h5⟩
  refine ⟨?_, ⟨h1, h2, h3, h4, h5⟩⟩
  have : RepP fi M' w' (.bool true) v := hres
  cases this; rfl

theorem row_ok {H : Type} {enc : TypeId × Value → H} {P : Program} {fi : Nat → Option Nat} {pg : Prg} (hP : P.follows .mixedOrders = true) (hL : LinkOk P fi pg) {f F n : Nat} (hf : fi f = some F) {ts : List TypeId} {L : List (Bool × List CS)}
    (hs : shapes P n ts = some L) (hlaw : ∀ qs, argsTy L qs → callL pg f qs [] = some (.bool true, [])) {W : World} {base : Nat} {args : List Value} {ds : List (DataW H)} {ps : List MemPlace}
    (hA : DataW.TrodAll enc P W 0 (fun _ => true) true ts args ds ps) (hv : ∀ (j : Nat) t v, ts[j]? = some t → args[j]? = some v → Value.okWide P W .any base t v) (hw : (DataW.weightsEach P ts ds).all (· ≤ reachBytes) = true) :
    Calls P F args.toArray W fun e W' => e = .returned (.bool true) ∧ Below W.heap.size W W' :=
  row_ok_bulk hP hL hf hs (fun qs h _ => hlaw qs h) hA hv hw (Nat.le_refl _)

end Go.Lw
end

/-! The law GatesAnds, of the machine: it answers true. -/
section
namespace Go.Lw
open Go

section
variable {ins : Int} {ands : List (Int × Int)} {gh : List GObj}

end

theorem csOk_slice {g : Bool} {bytes : Nat} {l : List CS} {p : PV} (h : csOk (.slice g bytes l) p) : ∃ xs, p = .sl false l.length xs ∧ xs.length * bytes ≤ reachBytes ∧ ∀ e ∈ xs, (g = true ∧ ∃ ps, e = .agg ps ∧ csAll l ps) ∨ (g = false ∧ csAll l [e]) := by
  unfold csOk at h; exact h

theorem and_list : ∀ {xs : List PV}, (∀ e ∈ xs, (true = true ∧ ∃ ps, e = .agg ps ∧ csAll [.int, .int] ps) ∨ (true = false ∧ csAll [.int, .int] [e])) → ∃ ands, RA ands ∧ xs = ands.map andV
  | [], _ => ⟨[], fun x h => (by cases h), rfl⟩
  | e :: xs, h => by
    obtain ⟨ands, hr, rfl⟩ := and_list (xs := xs) fun e he => h e (List.mem_cons_of_mem _ he)
    rcases h e (by simp) with ⟨-, ps, rfl, hp⟩ | ⟨h, -⟩
    · obtain ⟨_, _, rfl, g0, hp⟩ := csAll_cons hp
      obtain ⟨_, _, rfl, g1, hp⟩ := csAll_cons hp
      obtain rfl := csAll_nil hp
      obtain ⟨a, rfl, ha⟩ := csOk_int g0
      obtain ⟨b, rfl, hb⟩ := csOk_int g1
      refine ⟨(a, b) :: ands, fun x hx => ?_, rfl⟩
      rcases List.mem_cons.1 hx with rfl | hx
      · exact ⟨ha, hb⟩
      · exact hr x hx
    · cases h

end Go.Lw
end

/-! The law GatesEvals, of the machine: it answers true. -/
section
namespace Go.Lw
open Go

section
variable {ins : Int} {ands : List (Int × Int)} {gh : List GObj}

end

/-- All numbers of a list are Go's. -/
def RI (l : List Int) : Prop := ∀ x ∈ l, -9223372036854775808 ≤ x ∧ x ≤ 9223372036854775807

theorem int_list : ∀ {xs : List PV}, (∀ e ∈ xs, (false = true ∧ ∃ ps, e = .agg ps ∧ csAll [.int] ps) ∨ (false = false ∧ csAll [.int] [e])) → ∃ v : List Int, RI v ∧ xs = v.map I
  | [], _ => ⟨[], fun x h => (by cases h), rfl⟩
  | e :: xs, h => by
    obtain ⟨v, hr, rfl⟩ := int_list (xs := xs) fun e he => h e (List.mem_cons_of_mem _ he)
    rcases h e (by simp) with ⟨h, -⟩ | ⟨-, hp⟩
    · cases h
    · obtain ⟨_, _, e1, g0, hp⟩ := csAll_cons hp
      cases csAll_nil hp
      simp only [List.cons.injEq, and_true] at e1
      subst e1
      obtain ⟨b, rfl, hb⟩ := csOk_int g0
      refine ⟨b :: v, fun x hx => ?_, rfl⟩
      rcases List.mem_cons.1 hx with rfl | hx
      · exact hb
      · exact hr x hx

theorem argTy_one {c : CS} {p : PV} (h : argTy (false, [c]) p) : csOk c p := by
  obtain ⟨q, ps, e, h1, h2⟩ := csAll_cons h
  cases csAll_nil h2
  simp only [List.cons.injEq, and_true] at e
  subst e; exact h1

theorem ints_ty {p : PV} (h : argTy (false, [.slice false 8 [.int]]) p) : ∃ v : List Int, p = LI v ∧ RI v ∧ v.length * 8 ≤ reachBytes := by
  obtain ⟨xs, rfl, hb, hx⟩ := csOk_slice (argTy_one h)
  obtain ⟨v, hr, rfl⟩ := int_list hx
  refine ⟨v, rfl, hr, ?_⟩
  simpa using hb

end Go.Lw
end

/-! Models: what must be in any case, lists compared, and models out of rows. -/
section
namespace Go.Lw
open Go

def toggleM : Md := ⟨[⟨1, 1, 0, 0, 0, 0⟩, ⟨3, 1, 0, 0, 0, 0⟩, ⟨4, 1, 1, 0, 0, 0⟩], [(1, 0)], [(1, 2)], [1], []⟩

section
variable {m : Md} {gh : List GObj}

theorem toggle_eq : callL pg 75 [] gh = some (modelV toggleM, gh) := by
  refine callL_fn (fn := f_law_toggle) (s := ?s1) rfl rfl (D_law_toggle_0_ok ?h1) ?r1
  case h1 => simp only [D_law_toggle_0]; rfl
  case r1 => simp [finish, results, f_law_toggle, resOfs, resOf, resOk, St.cellsAt, modelV_def, toggleM, nodeV_def, andV_def]

theorem toggle_check : checkE toggleM = 0 := by decide
theorem toggle_states : ofL toggleM 3 = [1] := by decide

theorem modelBegun_eq : callL pg 37 [] gh = some (B true, gh) := by
  have ht := toggle_eq (gh := gh)
  have hc := MCheck_eq (m := toggleM) (gh := gh) (by decide) (by decide)
  have hs := States_eq (m := toggleM) (gh := gh) (by decide) (by decide)
  rw [toggle_check] at hc hs
  rw [toggle_states] at hs
  rw [modelV_def] at *
  generalize toggleM.nodes.map nodeV = N at *
  generalize toggleM.inits.map andV = N1 at *
  generalize toggleM.nexts.map andV = N2 at *
  generalize toggleM.bads.map I = N3 at *
  generalize toggleM.holds.map I = N4 at *
  refine callL_fn (fn := f_law_modelBegun) (s := ⟨[(0, B true)], [], gh⟩) rfl rfl (D_law_modelBegun_0_ok ?h1) ?r1
  case h1 => simp [D_law_modelBegun_0, ht, hc, hs]
  case r1 => simp [finish, results, f_law_modelBegun, resOfs, resOf, resOk]

end

abbrev modelC : List CS := [.slice true 48 [.int, .int, .int, .int, .int, .int], .slice true 16 [.int, .int], .slice true 16 [.int, .int], .slice false 8 [.int], .slice false 8 [.int]]

/-- As big as a model may be. -/
structure MdOk (m : Md) : Prop where
  nodes : m.nodes.length * 48 ≤ reachBytes
  inits : m.inits.length * 16 ≤ reachBytes
  nexts : m.nexts.length * 16 ≤ reachBytes
  bads : m.bads.length * 8 ≤ reachBytes
  holds : m.holds.length * 8 ≤ reachBytes

theorem node_list : ∀ {xs : List PV}, (∀ e ∈ xs, (true = true ∧ ∃ ps, e = .agg ps ∧ csAll [.int, .int, .int, .int, .int, .int] ps) ∨ (true = false ∧ csAll [.int, .int, .int, .int, .int, .int] [e])) → ∃ l : List Nd, xs = l.map nodeV
  | [], _ => ⟨[], rfl⟩
  | e :: xs, h => by
    obtain ⟨l, rfl⟩ := node_list (xs := xs) fun e he => h e (List.mem_cons_of_mem _ he)
    rcases h e (by simp) with ⟨-, ps, rfl, hp⟩ | ⟨h, -⟩
    · obtain ⟨_, _, rfl, g0, hp⟩ := csAll_cons hp
      obtain ⟨_, _, rfl, g1, hp⟩ := csAll_cons hp
      obtain ⟨_, _, rfl, g2, hp⟩ := csAll_cons hp
      obtain ⟨_, _, rfl, g3, hp⟩ := csAll_cons hp
      obtain ⟨_, _, rfl, g4, hp⟩ := csAll_cons hp
      obtain ⟨_, _, rfl, g5, hp⟩ := csAll_cons hp
      obtain rfl := csAll_nil hp
      obtain ⟨a0, rfl, -⟩ := csOk_int g0
      obtain ⟨a1, rfl, -⟩ := csOk_int g1
      obtain ⟨a2, rfl, -⟩ := csOk_int g2
      obtain ⟨a3, rfl, -⟩ := csOk_int g3
      obtain ⟨a4, rfl, -⟩ := csOk_int g4
      obtain ⟨a5, rfl, -⟩ := csOk_int g5
      exact ⟨⟨a0, a1, a2, a3, a4, a5⟩ :: l, rfl⟩
    · cases h

theorem model_ty {p : PV} (h : argTy (true, modelC) p) : ∃ m, p = modelV m ∧ MdOk m := by
  obtain ⟨ps, rfl, hp⟩ := argTy_agg h
  obtain ⟨_, _, rfl, g0, hp⟩ := csAll_cons hp
  obtain ⟨_, _, rfl, g1, hp⟩ := csAll_cons hp
  obtain ⟨_, _, rfl, g2, hp⟩ := csAll_cons hp
  obtain ⟨_, _, rfl, g3, hp⟩ := csAll_cons hp
  obtain ⟨_, _, rfl, g4, hp⟩ := csAll_cons hp
  obtain rfl := csAll_nil hp
  obtain ⟨x0, rfl, b0, h0⟩ := csOk_slice g0
  obtain ⟨x1, rfl, b1, h1⟩ := csOk_slice g1
  obtain ⟨x2, rfl, b2, h2⟩ := csOk_slice g2
  obtain ⟨x3, rfl, b3, h3⟩ := csOk_slice g3
  obtain ⟨x4, rfl, b4, h4⟩ := csOk_slice g4
  obtain ⟨l0, rfl⟩ := node_list h0
  obtain ⟨l1, -, rfl⟩ := and_list h1
  obtain ⟨l2, -, rfl⟩ := and_list h2
  obtain ⟨l3, -, rfl⟩ := int_list h3
  obtain ⟨l4, -, rfl⟩ := int_list h4
  exact ⟨⟨l0, l1, l2, l3, l4⟩, rfl, ⟨by simpa using b0, by simpa using b1, by simpa using b2, by simpa using b3, by simpa using b4⟩⟩

end Go.Lw
end

/-! Cones: what is reached, in plain terms. -/
section
namespace Go.Lw
open Go

/-- What a node leans on: what it names, and what its pairs name. -/
def leanOf (m : Md) (a : Int) : List Int := argsL (m.nodes.getD a.toNat default) ++ ((m.inits ++ m.nexts).filter fun p => decide (p.1 = a)).map (·.2)

inductive Reach (m : Md) (R : List Int) : Int → Prop
  | root {r : Int} : r ∈ R → Reach m R r
  | step {a b : Int} : Reach m R a → isNo m.nodes a → b ∈ leanOf m a → Reach m R b

/-- What a model that passes the check is known to be. -/
structure MdGood (m : Md) : Prop where
  len : m.nodes.length ≤ 80
  ahead : Ahead m.nodes
  pairs : ∀ p ∈ m.inits ++ m.nexts, isNo m.nodes p.1 ∧ isNo m.nodes p.2
  nod1 : (m.inits.map (·.1)).Nodup
  nod2 : (m.nexts.map (·.1)).Nodup

theorem pairsE_zero {l : List Nd} {f : List Bool} {init : Bool} : ∀ {ps : List (Int × Int)}, pairsE l f init ps = 0 → ∀ p ∈ ps, isNo l p.1 ∧ isNo l p.2
  | [], _, p, hp => by cases hp
  | q :: ps, h, p, hp => by
    rw [pairsE] at h
    split at h
    · rename_i h0
      rcases List.mem_cons.1 hp with rfl | hp
      · unfold pairE at h0
        split at h0
        · contradiction
        · rename_i hn
          exact ⟨Classical.byContradiction fun h => hn (.inl h), Classical.byContradiction fun h => hn (.inr (.inl h))⟩
      · exact pairsE_zero h p hp
    · contradiction

theorem good_of {m : Md} (h : checkE m = 0) : MdGood m := by
  unfold checkE at h
  split at h
  · contradiction
  rename_i h1
  split at h
  · contradiction
  rename_i h2
  split at h
  · contradiction
  split at h
  · contradiction
  rename_i h4
  have h4 : pairsAll m (hangF [] m.nodes) = 0 := Classical.byContradiction h4
  unfold pairsAll at h4
  split at h4
  · contradiction
  rename_i e1
  split at h4
  · contradiction
  rename_i e2
  split at h4
  · contradiction
  rename_i e3
  have e1 := Classical.byContradiction e1
  have e2 := Classical.byContradiction e2
  refine ⟨by omega, ahead_of (Classical.byContradiction h2), fun p hp => ?_, ?_, ?_⟩
  · rcases List.mem_append.1 hp with hp | hp
    · exact pairsE_zero e1 p hp
    · exact pairsE_zero e2 p hp
  · exact Classical.byContradiction fun h => e3 (.inl h)
  · exact Classical.byContradiction fun h => e3 (.inr h)

theorem args_no {m : Md} (hm : MdGood m) {a b : Int} (ha : isNo m.nodes a) (hb : b ∈ argsL (m.nodes.getD a.toNat default)) : isNo m.nodes b := by
  have := hm.ahead a.toNat (m.nodes.getD a.toNat default) (by rw [List.getD_eq_getElem?_getD, List.getElem?_eq_getElem ha.2]; rfl) b hb
  exact ⟨this.1, by have := ha.2; omega⟩

theorem lean_no {m : Md} (hm : MdGood m) {a b : Int} (ha : isNo m.nodes a) (hb : b ∈ leanOf m a) : isNo m.nodes b := by
  rcases List.mem_append.1 hb with hb | hb
  · exact args_no hm ha hb
  · obtain ⟨p, hp, rfl⟩ := List.mem_map.1 hb
    exact (hm.pairs p (List.mem_filter.1 hp).1).2

theorem reach_no {m : Md} (hm : MdGood m) {R : List Int} {a : Int} (h : Reach m R a) : isNo m.nodes a ∨ a ∈ R := by
  cases h with
  | root h => exact .inr h
  | step h1 h2 h3 => exact .inl (lean_no hm h2 h3)

theorem one_len {a : Int} : ∀ {ps : List (Int × Int)}, (ps.map (·.1)).Nodup → (ps.filter fun p => decide (p.1 = a)).length ≤ 1
  | [], _ => by simp
  | p :: ps, h => by
    rw [List.map_cons, List.nodup_cons] at h
    rw [List.filter_cons]
    by_cases hp : p.1 = a
    · rw [if_pos (by simpa using hp)]
      have : ps.filter (fun p => decide (p.1 = a)) = [] := by
        refine List.filter_eq_nil_iff.2 fun q hq => ?_
        simp only [decide_eq_true_eq]
        exact fun hqa => h.1 (hp ▸ hqa ▸ List.mem_map_of_mem hq)
      rw [this]; simp
    · rw [if_neg (by simpa using hp)]
      exact one_len h.2

theorem lean_len {m : Md} (hm : MdGood m) (a : Int) : (leanOf m a).length ≤ 5 := by
  have h1 := one_len (a := a) hm.nod1
  have h2 := one_len (a := a) hm.nod2
  unfold leanOf argsL
  simp only [List.filter_append, List.map_append, List.length_append, List.length_map, List.length_take, List.length_cons, List.length_nil]
  omega

/-- The numbers from i on (k of them) that are so. -/
def selF (p : Nat → Bool) : Nat → Nat → List Int
  | _, 0 => []
  | i, k + 1 => if p i = true then (i : Int) :: selF p (i + 1) k else selF p (i + 1) k

theorem selF_congr {p q : Nat → Bool} : ∀ {k i : Nat}, (∀ j, i ≤ j → j < i + k → p j = q j) → selF p i k = selF q i k
  | 0, _, _ => rfl
  | k + 1, i, h => by
    rw [selF, selF, h i (by omega) (by omega), selF_congr (k := k) (i := i + 1) fun j h1 h2 => h j (by omega) (by omega)]

theorem selF_len {p : Nat → Bool} : ∀ {k i : Nat}, (selF p i k).length ≤ k
  | 0, _ => by simp [selF]
  | k + 1, i => by
    have := selF_len (p := p) (k := k) (i := i + 1)
    rw [selF]; split <;> simp <;> omega

theorem selF_mem {p : Nat → Bool} {a : Int} : ∀ {k i : Nat}, a ∈ selF p i k ↔ ∃ j, i ≤ j ∧ j < i + k ∧ p j = true ∧ a = (j : Int)
  | 0, i => by
    rw [selF]
    exact ⟨fun h => (by cases h), fun ⟨j, h1, h2, _⟩ => (by omega)⟩
  | k + 1, i => by
    have ih := selF_mem (p := p) (a := a) (k := k) (i := i + 1)
    rw [selF]
    by_cases hp : p i = true
    · rw [if_pos hp, List.mem_cons, ih]
      constructor
      · rintro (rfl | ⟨j, h1, h2, h3, rfl⟩)
        · exact ⟨i, by omega, by omega, hp, rfl⟩
        · exact ⟨j, by omega, by omega, h3, rfl⟩
      · rintro ⟨j, h1, h2, h3, rfl⟩
        by_cases hj : j = i
        · subst hj; exact .inl rfl
        · exact .inr ⟨j, by omega, by omega, h3, rfl⟩
    · rw [if_neg hp, ih]
      constructor
      · rintro ⟨j, h1, h2, h3, rfl⟩
        exact ⟨j, by omega, by omega, h3, rfl⟩
      · rintro ⟨j, h1, h2, h3, rfl⟩
        have : j ≠ i := fun e => hp (e ▸ h3)
        exact ⟨j, by omega, by omega, h3, rfl⟩

def rootsOk (m : Md) (R : List Int) : Bool := R.all fun r => decide (isNo m.nodes r)

/-- What Cone answers. -/
def coneE (m : Md) (R : List Int) : Int := if checkE m ≠ 0 then checkE m else if rootsOk m R = true then 0 else 5
open Classical in
noncomputable def coneL (m : Md) (R : List Int) : List Int := if coneE m R = 0 then selF (fun i => decide (Reach m R (i : Int))) 0 m.nodes.length else []

end Go.Lw
end

/-! Cones: the program's lists of what nodes lean on. -/
section
namespace Go.Lw
open Go

/-! ### slices.Concat of two lists of pairs -/
section
variable {gh : List GObj}
theorem Grow2_eq {n : Nat} (h : n * 16 ≤ maxBytes) : callL pg 110 [.nils, I n] gh = some (.sl true 2 [], gh) := by
  have : callL pg 110 [.nils, I n] gh = libGrow 2 16 [.nils, I n] gh := rfl
  rw [this, libGrow, if_pos ⟨by omega, by simpa using h⟩]

theorem Concat2_eq {X Y : List PV} (hX : noGs X = true) (hY : noGs Y = true) (h : (X.length + Y.length) * 16 ≤ maxBytes) : callL pg 82 [.sl false 1 [.sl false 2 X, .sl false 2 Y]] gh = some (.sl false 2 (X ++ Y), gh) := by
  have hm : maxBytes = 140737488355328 := rfl
  have w1 : IntKind.i64.wrap (X.length : Int) = X.length := wrap_id (by omega) (by omega)
  have w2 : IntKind.i64.wrap ((X.length : Int) + (Y.length : Int)) = ((X.length + Y.length : Nat) : Int) := by rw [wrap_id (by omega) (by omega)]; omega
  have w3 : IntKind.i64.wrap (0 + 1) = 1 := by decide
  have w5 : IntKind.i64.wrap 2 = 2 := by decide
  have n1 : ¬ ((X.length : Int) < 0) := by omega
  have hl1 : runL pg f_slices_Concat_Lapi_Pair_api_Pair_l1 ⟨[(0, .sl false 1 [.sl false 2 X, .sl false 2 Y]), (3, I 0), (9, .sl false 1 [.sl false 2 X, .sl false 2 Y]), (10, I 2), (11, I 0)], [], gh⟩ =
      some (.normal, ⟨[(0, .sl false 1 [.sl false 2 X, .sl false 2 Y]), (3, I ((X.length + Y.length : Nat) : Int))], [], gh⟩) := by
    refine lp_next (s1 := ⟨[(0, .sl false 1 [.sl false 2 X, .sl false 2 Y]), (3, I X.length), (9, .sl false 1 [.sl false 2 X, .sl false 2 Y]), (10, I 2), (11, I 1)], [], gh⟩) (D_slices_Concat_Lapi_Pair_api_Pair_b1_ok ?_) ?_
    · simp [D_slices_Concat_Lapi_Pair_api_Pair_b1, w1, n1]; exact w3
    refine lp_next (s1 := ⟨[(0, .sl false 1 [.sl false 2 X, .sl false 2 Y]), (3, I ((X.length + Y.length : Nat) : Int)), (9, .sl false 1 [.sl false 2 X, .sl false 2 Y]), (10, I 2), (11, I 2)], [], gh⟩) (D_slices_Concat_Lapi_Pair_api_Pair_b1_ok ?_) ?_
    · simp only [D_slices_Concat_Lapi_Pair_api_Pair_b1]
      have n2' : decide ((X.length : Int) + (Y.length : Int) < 0) = false := decide_eq_false (by omega)
      simp [w2, n2']
      exact w5
    refine (lp_exit (s1 := ?s1) (D_slices_Concat_Lapi_Pair_api_Pair_b1_ok ?h1)).trans ?r1
    case h1 => simp [D_slices_Concat_Lapi_Pair_api_Pair_b1]; rfl
    case r1 => simp [keep, stays]
  have hl2 : runL pg f_slices_Concat_Lapi_Pair_api_Pair_l2 ⟨[(6, .sl true 2 []), (25, .sl false 1 [.sl false 2 X, .sl false 2 Y]), (26, I 2), (27, I 0)], [], gh⟩ = some (.normal, ⟨[(6, .sl true 2 (X ++ Y))], [], gh⟩) := by
    refine lp_next (s1 := ⟨[(6, .sl true 2 X), (25, .sl false 1 [.sl false 2 X, .sl false 2 Y]), (26, I 2), (27, I 1)], [], gh⟩) (D_slices_Concat_Lapi_Pair_api_Pair_b2_ok ?_) ?_
    · have : X.length * 16 ≤ maxBytes := by omega
      simp [D_slices_Concat_Lapi_Pair_api_Pair_b2, this]; exact w3
    refine lp_next (s1 := ⟨[(6, .sl true 2 (X ++ Y)), (25, .sl false 1 [.sl false 2 X, .sl false 2 Y]), (26, I 2), (27, I 2)], [], gh⟩) (D_slices_Concat_Lapi_Pair_api_Pair_b2_ok ?_) ?_
    · simp [D_slices_Concat_Lapi_Pair_api_Pair_b2, h]; exact w5
    refine (lp_exit (s1 := ?s2) (D_slices_Concat_Lapi_Pair_api_Pair_b2_ok ?h2)).trans ?r2
    case h2 => simp [D_slices_Concat_Lapi_Pair_api_Pair_b2]; rfl
    case r2 => simp [keep, stays]
  have hg := Grow2_eq (gh := gh) h
  have k2 := D_slices_Concat_Lapi_Pair_api_Pair_k2_ok (pg := pg) (gh := gh) (v6 := .sl true 2 (X ++ Y)) (e := .ret) (s := ⟨[(2, .sl false 2 (X ++ Y))], [], gh⟩) (by simp [D_slices_Concat_Lapi_Pair_api_Pair_k2])
  have k1 := D_slices_Concat_Lapi_Pair_api_Pair_k1_ok (pg := pg) (gh := gh) (v0 := .sl false 1 [.sl false 2 X, .sl false 2 Y]) (x3 := ((X.length + Y.length : Nat) : Int)) (e := .ret) (s := ⟨[(2, .sl false 2 (X ++ Y))], [], gh⟩) (by
    generalize X.length + Y.length = n at *
    simp [D_slices_Concat_Lapi_Pair_api_Pair_k1, hg, hl2, k2])
  have hn : noGs (X ++ Y) = true := by
    have : ∀ (A B : List PV), noGs A = true → noGs B = true → noGs (A ++ B) = true := by
      intro A B
      induction A with
      | nil => intro _ h; exact h
      | cons a A ih =>
        intro h1 h2
        simp only [noGs_cons, Bool.and_eq_true] at h1
        simp [h1.1, ih h1.2 h2]
    exact this X Y hX hY
  refine callL_fn (fn := f_slices_Concat_Lapi_Pair_api_Pair) (s := ⟨[(2, .sl false 2 (X ++ Y))], [], gh⟩) rfl rfl (D_slices_Concat_Lapi_Pair_api_Pair_0_ok ?h1) ?r1
  case h1 =>
    generalize X.length + Y.length = n at *
    simp [D_slices_Concat_Lapi_Pair_api_Pair_0, hl1, k1]
  case r1 => simp [finish, results, f_slices_Concat_Lapi_Pair_api_Pair, resOk, hn, get]

theorem noGs_pairs (l : List (Int × Int)) : noGs (l.map andV) = true := by
  induction l with
  | nil => rfl
  | cons a l ih => rw [List.map_cons, noGs_cons, ih]; rfl

theorem flat_ints (l : List Int) : (l.map I).all isFlat = true := by
  rw [List.all_eq_true]
  intro x hx
  obtain ⟨a, -, rfl⟩ := List.mem_map.1 hx
  rfl

theorem CloneK_nil {o : Bool} : callL pg 121 [.sl o 1 []] gh = some (.sl true 1 [], gh) := by
  have : callL pg 121 [.sl o 1 []] gh = libCloneK 8 [.sl o 1 []] gh := rfl
  rw [this, libCloneK, if_pos rfl, libClone, if_pos ⟨rfl, by simp⟩]

theorem CloneK_eq {o : Bool} {xs : List Int} (h : xs.length * 8 ≤ maxBytes) (hx : xs ≠ []) : callL pg 121 [.sl o 1 (xs.map I)] gh = some (.stk gh.length 1 xs.length, gh ++ [.stk 1 (xs.map I)]) := by
  have : callL pg 121 [.sl o 1 (xs.map I)] gh = libCloneK 8 [.sl o 1 (xs.map I)] gh := rfl
  rw [this, libCloneK, if_neg (by simpa using hx), if_pos ⟨rfl, by simpa using h, flat_ints xs⟩, List.length_map]

theorem ArgsK_eq (x : Nd) : callL pg 120 [nodeV x] gh = some (.stk gh.length 0 (argsL x).length, gh ++ [.stk 0 [I x.a, I x.b, I x.c]]) := by
  have ht := Takes_eq x.k []
  have hl : (argsL x).length = (takesOf x.k).toNat := by
    unfold argsL
    rcases takes_cases x.k with h | h | h | h <;> rw [h] <;> rfl
  have h3 : takesOf x.k ≤ 3 := by rcases takes_cases x.k with h | h | h | h <;> rw [h] <;> decide
  have h0 : 0 ≤ takesOf x.k := by rcases takes_cases x.k with h | h | h | h <;> rw [h] <;> decide
  rw [hl, nodeV_def]
  generalize takesOf x.k = t at *
  refine callL_fn (fn := f_model_Args_K) (s := ⟨[(2, .stk gh.length 0 t.toNat)], [], gh ++ [.stk 0 [I x.a, I x.b, I x.c]]⟩) rfl rfl (D_model_Args_K_0_ok ?h1) ?r1
  case h1 => simp [D_model_Args_K_0, ht, h0, h3, isFlat]
  case r1 => simp [finish, results, f_model_Args_K, resOfs, resOf, resOk]
end

/-! ### the lists -/
theorem splice1 {cs : List PV} {o : Nat} {v : PV} (h : o < cs.length) : spliceAt cs o [v] = cs.set o v := by
  unfold spliceAt
  rw [List.set_eq_take_append_cons_drop, if_pos h]
  simp

theorem range_set {α : Type} {n i : Nat} {f g : Nat → α} {v : α} (hi : g i = v) (hj : ∀ j, j ≠ i → g j = f j) : ((List.range n).map f).set i v = (List.range n).map g := by
  apply List.ext_getElem?
  intro j
  rw [List.getElem?_set]
  by_cases h : i = j
  · subst h
    by_cases hn : i < n
    · simp [hn, hi]
    · simp [hn]
  · rw [if_neg h]
    by_cases hn : j < n
    · simp [hn, hj j (fun e => h e.symm)]
    · simp [hn]

/-- What the list of a node holds, of the pairs so far. -/
def leanP (m : Md) (ps : List (Int × Int)) (i : Nat) : List Int := argsL (m.nodes.getD i default) ++ (ps.filter fun p => decide (p.1 = (i : Int))).map (·.2)
def genOf (ps : List (Int × Int)) (i : Nat) : Nat := (ps.filter fun p => decide (p.1 = (i : Int))).length
def conK (m : Md) (ps : List (Int × Int)) (i : Nat) : List PV :=
  if genOf ps i = 0 then [I (m.nodes.getD i default).a, I (m.nodes.getD i default).b, I (m.nodes.getD i default).c] else (leanP m ps i).map I
def stkK (m : Md) (ps : List (Int × Int)) (i : Nat) : GObj := .stk (genOf ps i) (conK m ps i)
def cellK (m : Md) (g : Nat) (ps : List (Int × Int)) (i : Nat) : PV := .stk (g + 1 + i) (genOf ps i) (leanP m ps i).length
def boxK (m : Md) (g : Nat) (ps : List (Int × Int)) : List PV := (List.range m.nodes.length).map (cellK m g ps)
def box1 (m : Md) (g i : Nat) : List PV := (List.range m.nodes.length).map fun j => if j < i then cellK m g [] j else .sl true 1 []

theorem conK_take (m : Md) (ps : List (Int × Int)) (i : Nat) : (leanP m ps i).length ≤ (conK m ps i).length ∧ (conK m ps i).take (leanP m ps i).length = (leanP m ps i).map I := by
  unfold conK
  by_cases h : genOf ps i = 0
  · rw [if_pos h]
    have he : (ps.filter fun p => decide (p.1 = (i : Int))) = [] := List.length_eq_zero_iff.1 h
    have hl : leanP m ps i = argsL (m.nodes.getD i default) := by unfold leanP; rw [he]; simp
    rw [hl]
    unfold argsL
    rcases takes_cases (m.nodes.getD i default).k with h | h | h | h <;> rw [h] <;> simp
  · rw [if_neg h]
    refine ⟨by simp, ?_⟩
    rw [List.take_of_length_le (by simp)]

theorem box1_zero (m : Md) (g : Nat) : box1 m g 0 = List.flatMap PV.cells (List.replicate m.nodes.length (.sl true 1 [])) := by
  unfold box1
  generalize m.nodes.length = n
  simp only [Nat.not_lt_zero, if_false]
  induction n with
  | zero => rfl
  | succ n ih =>
    rw [List.replicate_succ', List.flatMap_append, ← ih, List.range_succ, List.map_append]
    rfl

theorem box1_all (m : Md) (g : Nat) : box1 m g m.nodes.length = boxK m g [] := by
  unfold box1 boxK
  refine List.map_congr_left fun j hj => ?_
  rw [if_pos (List.mem_range.1 hj)]

theorem box1_set (m : Md) (g i : Nat) : (box1 m g i).set i (cellK m g [] i) = box1 m g (i + 1) := by
  unfold box1
  refine range_set (by rw [if_pos (by omega)]) fun j hj => ?_
  by_cases h : j < i
  · rw [if_pos h, if_pos (by omega)]
  · rw [if_neg h, if_neg (by omega)]

theorem gen_same {ps : List (Int × Int)} {i j : Nat} {b : Int} (h : j ≠ i) : genOf (ps ++ [((i : Int), b)]) j = genOf ps j := by
  have : ¬ ((i : Int) = (j : Int)) := by omega
  unfold genOf; simp [this]
theorem gen_next {ps : List (Int × Int)} {i : Nat} {b : Int} : genOf (ps ++ [((i : Int), b)]) i = genOf ps i + 1 := by
  unfold genOf; simp
theorem lean_same {m : Md} {ps : List (Int × Int)} {i j : Nat} {b : Int} (h : j ≠ i) : leanP m (ps ++ [((i : Int), b)]) j = leanP m ps j := by
  have : ¬ ((i : Int) = (j : Int)) := by omega
  unfold leanP; simp [this]
theorem lean_next {m : Md} {ps : List (Int × Int)} {i : Nat} {b : Int} : leanP m (ps ++ [((i : Int), b)]) i = leanP m ps i ++ [b] := by
  unfold leanP; simp

theorem boxK_set (m : Md) (g : Nat) (ps : List (Int × Int)) (i : Nat) (b : Int) : (boxK m g ps).set i (.stk (g + 1 + i) (genOf ps i + 1) ((leanP m ps i).length + 1)) = boxK m g (ps ++ [((i : Int), b)]) := by
  unfold boxK
  refine range_set ?_ fun j hj => ?_
  · unfold cellK; rw [gen_next, lean_next]; simp
  · unfold cellK; rw [gen_same hj, lean_same hj]

theorem stks_set (m : Md) (ps : List (Int × Int)) (i : Nat) (b : Int) : ((List.range m.nodes.length).map (stkK m ps)).set i (.stk (genOf ps i + 1) ((leanP m ps i).map I ++ [I b])) = (List.range m.nodes.length).map (stkK m (ps ++ [((i : Int), b)])) := by
  refine range_set ?_ fun j hj => ?_
  · unfold stkK conK; rw [gen_next, lean_next, if_neg (by omega)]; simp
  · unfold stkK conK; rw [gen_same hj, lean_same hj]

theorem boxK_len (m : Md) (g : Nat) (ps : List (Int × Int)) : (boxK m g ps).length = m.nodes.length := by simp [boxK]
theorem box1_len (m : Md) (g i : Nat) : (box1 m g i).length = m.nodes.length := by simp [box1]

theorem boxK_get {m : Md} {g : Nat} {ps : List (Int × Int)} {a : Int} (h : isNo m.nodes a) : (boxK m g ps)[a.toNat]? = some (.stk (g + 1 + a.toNat) (genOf ps a.toNat) (leanP m ps a.toNat).length) := by
  unfold boxK
  rw [List.getElem?_map, List.getElem?_range h.2]
  rfl

/-- What lies there, behind what there was. -/
def GK (gh : List GObj) (m : Md) (ps : List (Int × Int)) : List GObj := gh ++ (.cells (boxK m gh.length ps) :: (List.range m.nodes.length).map (stkK m ps))
def G1 (gh : List GObj) (m : Md) (i : Nat) : List GObj := gh ++ (.cells (box1 m gh.length i) :: (List.range i).map (stkK m []))

section
variable {m : Md} {gh : List GObj} {R : List Int}

theorem GK_len (ps : List (Int × Int)) : (GK gh m ps).length = gh.length + 1 + m.nodes.length := by simp [GK]; omega
theorem GK_box (ps : List (Int × Int)) : (GK gh m ps)[gh.length]? = some (.cells (boxK m gh.length ps)) := by simp [GK]
theorem GK_stk (ps : List (Int × Int)) {i : Nat} (h : i < m.nodes.length) : (GK gh m ps)[gh.length + 1 + i]? = some (stkK m ps i) := by
  unfold GK
  rw [List.getElem?_append_right (by omega), show gh.length + 1 + i - gh.length = i + 1 by omega, List.getElem?_cons_succ, List.getElem?_map, List.getElem?_range h]
  rfl
theorem GK_set (ps : List (Int × Int)) {i : Nat} (b : Int) : ((GK gh m ps).set (gh.length + 1 + i) (.stk (genOf ps i + 1) ((leanP m ps i).map I ++ [I b]))).set gh.length (.cells (boxK m gh.length (ps ++ [((i : Int), b)]))) = GK gh m (ps ++ [((i : Int), b)]) := by
  unfold GK
  rw [List.set_append_right _ _ (by omega), show gh.length + 1 + i - gh.length = i + 1 by omega, List.set_cons_succ, stks_set, List.set_append_right _ _ (Nat.le_refl _), Nat.sub_self, List.set_cons_zero]
theorem G1_len (i : Nat) : (G1 gh m i).length = gh.length + 1 + i := by simp [G1]; omega
theorem G1_next (i : Nat) : ((G1 gh m i) ++ [stkK m [] i]).set gh.length (.cells (box1 m gh.length (i + 1))) = G1 gh m (i + 1) := by
  unfold G1
  rw [List.append_assoc, List.set_append_right _ _ (Nat.le_refl _), Nat.sub_self, List.cons_append, List.set_cons_zero, List.range_succ, List.map_append]
  rfl
theorem G1_box (i : Nat) (l : List GObj) : (G1 gh m i ++ l)[gh.length]? = some (.cells (box1 m gh.length i)) := by simp [G1]
theorem G1_all : G1 gh m m.nodes.length = GK gh m [] := by unfold G1 GK; rw [box1_all]
theorem G1_zero : G1 gh m 0 = gh ++ [.cells (List.flatMap PV.cells (List.replicate m.nodes.length (.sl true 1 [])))] := by unfold G1; rw [box1_zero]; rfl

def cone1St (m : Md) (R : List Int) (i : Nat) (gh : List GObj) : St :=
  ⟨[(1, LI R), (2, .ptr false 0 0), (7, .bs true gh.length 0 m.nodes.length 1), (27, LN m.nodes), (28, I m.nodes.length), (29, I (i : Int))], [mcells m], G1 gh m i⟩

theorem cone_l1 (hl : m.nodes.length ≤ 1000) : ∀ k i, i + k = m.nodes.length →
    runL pg f_model_Cone_l1 (cone1St m R i gh) = some (.normal, ⟨[(1, LI R), (2, .ptr false 0 0), (7, .bs true gh.length 0 m.nodes.length 1)], [mcells m], GK gh m []⟩)
  | 0, i, h => by
    have hlt : ¬ (i : Int) < (m.nodes.length : Int) := by omega
    refine (lp_exit (s1 := ?s1) (D_model_Cone_b1_ok ?h1)).trans ?r1
    case h1 => simp only [D_model_Cone_b1, decide_eq_false hlt, br_false]; rfl
    case r1 =>
      rw [show i = m.nodes.length by omega, G1_all]
      simp [keep, stays]
  | k + 1, i, h => by
    have hlt : i < m.nodes.length := by omega
    have hltI : (i : Int) < (m.nodes.length : Int) := by omega
    have e2 : IntKind.i64.wrap ((i : Int) + 1) = ((i + 1 : Nat) : Int) := by rw [wrap_id (by omega) (by omega)]; omega
    have hx : (m.nodes.map nodeV)[i]? = some (nodeV m.nodes[i]) := by simp [List.getElem?_eq_getElem hlt]
    have hArg := ArgsK_eq (gh := G1 gh m i) m.nodes[i]
    have hgd : m.nodes.getD i default = m.nodes[i] := by simp [List.getD_eq_getElem?_getD, List.getElem?_eq_getElem hlt]
    have hstk : stkK m [] i = .stk 0 [I m.nodes[i].a, I m.nodes[i].b, I m.nodes[i].c] := by
      unfold stkK conK genOf; rw [hgd]; rfl
    have hcell : cellK m gh.length [] i = .stk (G1 gh m i).length 0 (argsL m.nodes[i]).length := by
      unfold cellK genOf leanP; rw [hgd, G1_len]; simp
    have hsp : spliceAt (box1 m gh.length i) i [.stk (G1 gh m i).length 0 (argsL m.nodes[i]).length] = box1 m gh.length (i + 1) := by
      rw [splice1 (by rw [box1_len]; exact hlt), ← hcell, box1_set]
    have hbox := G1_box (gh := gh) (m := m) i [stkK m [] i]
    have hnext := G1_next (gh := gh) (m := m) i
    rw [hstk] at hbox hnext
    have hbl := box1_len m gh.length i
    rw [nodeV_def m.nodes[i]] at hx hArg
    generalize m.nodes[i] = x at *
    refine lp_next (s1 := cone1St m R (i + 1) gh) (D_model_Cone_b1_ok ?_) (cone_l1 hl k (i + 1) (by omega))
    unfold cone1St
    generalize box1 m gh.length (i + 1) = B2 at *
    generalize box1 m gh.length i = B1 at *
    generalize (argsL x).length = al at *
    generalize G1 gh m i ++ [.stk 0 [I x.a, I x.b, I x.c]] = GN at *
    generalize (G1 gh m i).length = gl at *
    generalize G1 gh m i = G0 at *
    have : i + 1 ≤ m.nodes.length := by omega
    simp only [D_model_Cone_b1, decide_eq_true hltI]
    simp [hltI, hx, hArg, hbox, hnext, hsp, hbl, e2, this, -List.getElem?_map]

end
end Go.Lw
end

/-! Cones: the program's search. -/
section
namespace Go.Lw
open Go

theorem mfind_mapB (l : List Int) (k : Int) : mfind 0 (mapB l) (I k) = some (if k ∈ l then some (B true) else none) := by
  induction l with
  | nil => rfl
  | cons a l ih =>
    have ih' : mfind 0 (l.map fun a => (I a, B true)) (I k) = some (if k ∈ l then some (B true) else none) := ih
    by_cases h : k = a
    · simp [mapB, mfind, sameKey, h]
    · simp [mapB, mfind, sameKey, beq_false_of_ne h, h, ih']

section
variable {m : Md} {gh : List GObj} {R : List Int}

def cone2St (m : Md) (R : List Int) (pl : List (Int × Int)) (j : Nat) (gh : List GObj) : St :=
  ⟨[(1, LI R), (2, .ptr false 0 0), (7, .bs true gh.length 0 m.nodes.length 1), (45, LP pl), (46, I pl.length), (47, I (j : Int))], [mcells m], GK gh m (pl.take j)⟩

theorem cone_l2 (hl : m.nodes.length ≤ 1000) {pl : List (Int × Int)} (hp : ∀ p ∈ pl, isNo m.nodes p.1) (hs : pl.length ≤ 1000) : ∀ k j, j + k = pl.length →
    runL pg f_model_Cone_l2 (cone2St m R pl j gh) = some (.normal, ⟨[(1, LI R), (2, .ptr false 0 0), (7, .bs true gh.length 0 m.nodes.length 1)], [mcells m], GK gh m pl⟩)
  | 0, j, h => by
    have hlt : ¬ (j : Int) < (pl.length : Int) := by omega
    refine (lp_exit (s1 := ?s1) (D_model_Cone_b2_ok ?h1)).trans ?r1
    case h1 => simp only [D_model_Cone_b2, decide_eq_false hlt, br_false]; rfl
    case r1 =>
      rw [List.take_of_length_le (by omega)]
      simp [keep, stays]
  | k + 1, j, h => by
    have hlt : j < pl.length := by omega
    have hltI : (j : Int) < (pl.length : Int) := by omega
    have e2 : IntKind.i64.wrap ((j : Int) + 1) = ((j + 1 : Nat) : Int) := by rw [wrap_id (by omega) (by omega)]; omega
    have hx : (pl.map andV)[j]? = some (andV pl[j]) := by simp [List.getElem?_eq_getElem hlt]
    rw [andV_def] at hx
    have hpn := hp _ (List.getElem_mem hlt)
    have htk : pl.take (j + 1) = pl.take j ++ [pl[j]] := by simp
    have h0 := hpn.1
    have h1 := hpn.2
    have hsz : (leanP m (pl.take j) pl[j].1.toNat).length ≤ 3 + pl.length := by
      unfold leanP argsL
      have hf := List.length_filter_le (fun p => decide (p.1 = ((pl[j].1.toNat : Nat) : Int))) (pl.take j)
      simp only [List.length_append, List.length_map, List.length_take, List.length_cons, List.length_nil] at hf ⊢
      omega
    refine lp_next (s1 := cone2St m R pl (j + 1) gh) (D_model_Cone_b2_ok ?_) (cone_l2 hl hp hs k (j + 1) (by omega))
    unfold cone2St
    rw [htk]
    generalize pl[j] = p at *
    obtain ⟨a, b⟩ := p
    simp only at *
    obtain ⟨i, rfl⟩ : ∃ i : Nat, a = (i : Int) := ⟨a.toNat, by omega⟩
    simp only [Int.toNat_natCast] at *
    generalize pl.take j = ps at *
    have hget := boxK_get (g := gh.length) (ps := ps) hpn
    simp only [Int.toNat_natCast] at hget
    have hbl := boxK_len m gh.length ps
    have hbox := GK_box (gh := gh) (m := m) ps
    have hstk := GK_stk (gh := gh) (m := m) ps h1
    obtain ⟨hcl, hct⟩ := conK_take m ps i
    have hset := GK_set (gh := gh) (m := m) ps (i := i) b
    have hbs := boxK_set m gh.length ps i b
    unfold stkK at hstk
    have hmx : ((leanP m ps i).length + 1) * 8 ≤ maxBytes := by
      have : maxBytes = 140737488355328 := rfl
      omega
    rw [← hct] at hset
    have hbox2 : ((GK gh m ps).set (gh.length + 1 + i) (.stk (genOf ps i + 1) ((conK m ps i).take (leanP m ps i).length ++ [I b])))[gh.length]? = some (.cells (boxK m gh.length ps)) := by
      rw [List.getElem?_set, if_neg (by omega)]; exact hbox
    have hsp : spliceAt (boxK m gh.length ps) i [.stk (gh.length + 1 + i) (genOf ps i + 1) ((leanP m ps i).length + 1)] = boxK m gh.length (ps ++ [((i : Int), b)]) := by
      rw [splice1 (by omega)]; exact hbs
    generalize conK m ps i = L at *
    generalize (leanP m ps i).length = len at *
    generalize genOf ps i = gen at *
    generalize boxK m gh.length (ps ++ [((i : Int), b)]) = C2 at *
    generalize boxK m gh.length ps = C at *
    generalize hGM : (GK gh m ps).set (gh.length + 1 + i) (.stk (gen + 1) (L.take len ++ [I b])) = GM at *
    generalize GK gh m (ps ++ [((i : Int), b)]) = G2 at *
    generalize GK gh m ps = G0 at *
    have hlt2 : i < m.nodes.length := h1
    have hle : i + 1 ≤ m.nodes.length := h1
    have hget2 : ∀ h, C[i]'h = .stk (gh.length + 1 + i) gen len := fun h => by
      have := List.getElem?_eq_getElem h
      rw [hget] at this
      exact (Option.some.inj this).symm
    simp only [D_model_Cone_b2, decide_eq_true hltI]
    simp [hx, hlt2, hget2, hbox, hGM, hbox2, hset, hstk, hsp, hcl, hmx, hbl, hle, e2, ghStk, elsOf, apart, isFlat, -List.getElem?_map]

/-! ### the search -/
def wtF (m : Md) (acc : List Int) : Nat := ((List.range m.nodes.length).map fun (i : Nat) => if (i : Int) ∈ acc then 0 else (leanOf m (i : Int)).length).sum

theorem sum_le {f : Nat → Nat} {c : Nat} : ∀ {l : List Nat}, (∀ i ∈ l, f i ≤ c) → (l.map f).sum ≤ c * l.length
  | [], _ => by simp
  | a :: l, h => by
    have h1 := h a (by simp)
    have h2 := sum_le (l := l) fun i hi => h i (List.mem_cons_of_mem _ hi)
    simp only [List.map_cons, List.sum_cons, List.length_cons, Nat.mul_add]
    omega

theorem wtF_le (hm : MdGood m) (acc : List Int) : wtF m acc ≤ 400 := by
  have h := sum_le (c := 5) (l := List.range m.nodes.length) (f := fun (i : Nat) => if (i : Int) ∈ acc then 0 else (leanOf m (i : Int)).length) (fun i _ => by
    have := lean_len hm (i : Int)
    split <;> omega)
  have := hm.len
  unfold wtF
  rw [List.length_range] at h
  omega

theorem sum_one {f g : Nat → Nat} {a : Nat} (hg : g a = 0) (hfg : ∀ i, i ≠ a → g i = f i) : ∀ {l : List Nat}, l.Nodup → a ∈ l → (l.map f).sum = (l.map g).sum + f a
  | [], _, h => by cases h
  | b :: l, hn, h => by
    rw [List.nodup_cons] at hn
    simp only [List.map_cons, List.sum_cons]
    by_cases hb : b = a
    · subst hb
      have : l.map g = l.map f := List.map_congr_left fun i hi => hfg i (fun e => hn.1 (e ▸ hi))
      rw [this, hg]; omega
    · have := sum_one hg hfg (l := l) hn.2 ((List.mem_cons.1 h).resolve_left fun e => hb e.symm)
      rw [this, hfg b hb]; omega

theorem wtF_ins {acc : List Int} {a : Int} (ha : isNo m.nodes a) (hn : a ∉ acc) : wtF m acc = wtF m (insL acc a) + (leanOf m a).length := by
  have h0 := ha.1
  have h1 := ha.2
  unfold wtF
  have := sum_one (a := a.toNat) (l := List.range m.nodes.length) (f := fun (i : Nat) => if (i : Int) ∈ acc then 0 else (leanOf m (i : Int)).length)
    (g := fun (i : Nat) => if (i : Int) ∈ insL acc a then 0 else (leanOf m (i : Int)).length) (by
      rw [if_pos (by rw [insL_mem]; exact .inr (by omega))]) (fun i hi => by
      simp only [insL_mem]
      have : ¬ (i : Int) = a := by omega
      simp [this]) List.nodup_range (List.mem_range.2 h1)
  rw [this, show ((a.toNat : Nat) : Int) = a by omega, if_neg hn]

structure CInv (m : Md) (R acc todo : List Int) : Prop where
  no : ∀ a ∈ acc, isNo m.nodes a
  snd : ∀ a ∈ acc, Reach m R a
  td : ∀ a ∈ todo, Reach m R a
  cl : ∀ a ∈ acc, ∀ b ∈ leanOf m a, b ∈ acc ∨ b ∈ todo
  roots : ∀ r ∈ R, r ∈ acc ∨ r ∈ todo

theorem leanP_eq {a : Int} (h : isNo m.nodes a) : leanP m (m.inits ++ m.nexts) a.toNat = leanOf m a := by
  unfold leanP leanOf
  have := h.1
  rw [show ((a.toNat : Nat) : Int) = a by omega]

abbrev plM (m : Md) : List (Int × Int) := m.inits ++ m.nexts

def cone3St (m : Md) (acc todo : List Int) (tg : Nat) (tc : List PV) (gh : List GObj) : St :=
  ⟨[(2, .ptr false 0 0), (7, .bs true gh.length 0 m.nodes.length 1), (12, .mp (gh.length + 1 + m.nodes.length)), (13, .stk (gh.length + 1 + m.nodes.length + 1) tg todo.length)], [mcells m], GK gh m (plM m) ++ [.map (mapB acc), .stk tg tc]⟩

/-- How the search ends. -/
def coneEnd (m : Md) (R : List Int) (gh : List GObj) (r : Option (IExit × St)) : Prop :=
  (∃ acc l, (∀ a, a ∈ acc ↔ Reach m R a) ∧ rootsOk m R = true ∧ r = some (.normal, ⟨[(2, .ptr false 0 0), (12, .mp (gh.length + 1 + m.nodes.length))], [mcells m], GK gh m (plM m) ++ (.map (mapB acc) :: l)⟩)) ∨
  (∃ l, rootsOk m R = false ∧ r = some (.ret, ⟨[(4, .sl true 1 []), (5, I 5)], [], GK gh m (plM m) ++ l⟩))

theorem cinv_end {acc : List Int} (h : CInv m R acc []) : (∀ a, a ∈ acc ↔ Reach m R a) ∧ rootsOk m R = true := by
  have hr : ∀ r ∈ R, r ∈ acc := fun r hr => (h.roots r hr).resolve_right (by simp)
  refine ⟨fun a => ⟨h.snd a, fun ha => ?_⟩, ?_⟩
  · induction ha with
    | root h1 => exact hr _ h1
    | step h1 h2 h3 ih => exact (h.cl _ ih _ h3).resolve_right (by simp)
  · unfold rootsOk
    exact List.all_eq_true.2 fun r h1 => decide_eq_true (h.no r (hr r h1))

theorem cone_exit {acc : List Int} {tg : Nat} {tc : List PV} (hI : CInv m R acc []) : coneEnd m R gh (runL pg f_model_Cone_l3 (cone3St m acc [] tg tc gh)) := by
  obtain ⟨h1, h2⟩ := cinv_end hI
  refine .inl ⟨acc, [.stk tg tc], h1, h2, ?_⟩
  refine (lp_exit (s1 := ?s1) (D_model_Cone_b3_ok ?h1)).trans ?r1
  case h1 => simp [D_model_Cone_b3]; rfl
  case r1 => simp [keep, stays]

theorem cone_l3 (hm : MdGood m) : ∀ N acc todo tg tc, wtF m acc + todo.length ≤ N → (todo.length + wtF m acc) * 8 ≤ maxBytes → CInv m R acc todo → todo.length ≤ tc.length → tc.take todo.length = todo.map I →
    coneEnd m R gh (runL pg f_model_Cone_l3 (cone3St m acc todo tg tc gh)) := by
  intro N
  induction N with
  | zero =>
    intro acc todo tg tc hN _ hI _ _
    have : todo = [] := List.length_eq_zero_iff.1 (by omega)
    subst this
    exact cone_exit hI
  | succ N ih =>
    intro acc todo tg tc hN hB hI hcl hct
    rcases List.eq_nil_or_concat todo with rfl | ⟨rest, n, rfl⟩
    · exact cone_exit hI
    · have hmx : maxBytes = 140737488355328 := rfl
      rw [List.concat_eq_append] at *
      have hlen : (rest ++ [n]).length = rest.length + 1 := by simp
      rw [hlen] at hN hB hcl hct
      have hw : IntKind.i64.wrap (rest.length : Int) = rest.length := wrap_id (by omega) (by omega)
      have hw2 : IntKind.i64.wrap ((rest.length : Int) + 1 - 1) = rest.length := by rw [show (rest.length : Int) + 1 - 1 = rest.length by omega]; exact hw
      have hli : (rest.length : Int) < (rest.length : Int) + 1 := by omega
      have hlj : (rest.length : Int) ≤ (rest.length : Int) + 1 := by omega
      have hT2 : tc[rest.length]? = some (I n) := by
        have h1 : (tc.take (rest.length + 1))[rest.length]? = tc[rest.length]? := by rw [List.getElem?_take, if_pos (by omega)]
        rw [← h1, hct]; simp
      have hT3 : tc.take rest.length = rest.map I := by
        have h1 : (tc.take (rest.length + 1)).take rest.length = tc.take rest.length := by rw [List.take_take]; congr 1; omega
        rw [← h1, hct, ← List.map_take]; simp
      have hn := hI.td n (by simp)
      have hgl := GK_len (gh := gh) (m := m) (plM m)
      have hbox := GK_box (gh := gh) (m := m) (plM m)
      obtain ⟨Gm, hGm⟩ : ∃ Gm, Gm = GK gh m (plM m) := ⟨_, rfl⟩
      have hgc : ∀ l, (Gm ++ l)[gh.length]? = some (.cells (boxK m gh.length (plM m))) := fun l => by rw [hGm, List.getElem?_append_left (by rw [hgl]; omega)]; exact hbox
      have hgm : ∀ M o, (Gm ++ [GObj.map M, o])[gh.length + 1 + m.nodes.length]? = some (.map M) := fun M o => by rw [hGm, List.getElem?_append_right (by rw [hgl]; omega), hgl]; simp
      have hgt : ∀ o g c, (Gm ++ [o, GObj.stk g c])[gh.length + 1 + m.nodes.length + 1]? = some (.stk g c) := fun o g c => by rw [hGm, List.getElem?_append_right (by rw [hgl]; omega), hgl, show gh.length + 1 + m.nodes.length + 1 - (gh.length + 1 + m.nodes.length) = 1 by omega]; rfl
      have hsm : ∀ M M' o, (Gm ++ [GObj.map M, o]).set (gh.length + 1 + m.nodes.length) (.map M') = Gm ++ [.map M', o] := fun M M' o => by rw [hGm, List.set_append_right _ _ (by rw [hgl]; omega), hgl]; simp
      have hss : ∀ o o1 o2, (Gm ++ [o, o1]).set (gh.length + 1 + m.nodes.length + 1) o2 = Gm ++ [o, o2] := fun o o1 o2 => by rw [hGm, List.set_append_right _ _ (by rw [hgl]; omega), hgl, show gh.length + 1 + m.nodes.length + 1 - (gh.length + 1 + m.nodes.length) = 1 by omega]; rfl
      have hgs : ∀ i l, i < m.nodes.length → (Gm ++ l)[gh.length + 1 + i]? = some (stkK m (plM m) i) := fun i l hi => by rw [hGm, List.getElem?_append_left (by rw [hgl]; omega)]; exact GK_stk _ hi
      by_cases hno : isNo m.nodes n
      · have h0 := hno.1
        have h1 := hno.2
        have hlt : n < (m.nodes.length : Int) := by omega
        have hge : ¬ (m.nodes.length : Int) ≤ n := by omega
        have hnn : ¬ n < 0 := by omega
        have hfind := mfind_mapB acc n
        by_cases hin : n ∈ acc
        · rw [if_pos hin] at hfind
          have hI2 : CInv m R acc rest := by
            refine ⟨hI.no, hI.snd, fun a ha => hI.td a (by simp [ha]), fun a ha b hb => ?_, fun r hr => ?_⟩
            · rcases hI.cl a ha b hb with h | h
              · exact .inl h
              · rcases List.mem_append.1 h with h | h
                · exact .inr h
                · simp at h; subst h; exact .inl hin
            · rcases hI.roots r hr with h | h
              · exact .inl h
              · rcases List.mem_append.1 h with h | h
                · exact .inr h
                · simp at h; subst h; exact .inl hin
          have hrec := ih acc rest tg tc (by omega) (by omega) hI2 (by omega) hT3
          have hstep : runL pg f_model_Cone_b3 (cone3St m acc (rest ++ [n]) tg tc gh) = some (.normal, cone3St m acc rest tg tc gh) := by
            refine D_model_Cone_b3_ok ?_
            unfold cone3St
            rw [← hGm, hlen]
            have hgm := hgm (mapB acc) (.stk tg tc)
            have hgt := hgt (.map (mapB acc)) tg tc
            generalize gh.length + 1 + m.nodes.length + 1 = n2 at *
            generalize gh.length + 1 + m.nodes.length = n1 at *
            generalize Gm ++ [GObj.map (mapB acc), .stk tg tc] = G at *
            simp [D_model_Cone_b3, hli, hlj, hw, hnn, hge, hgm, hgt, hT2, stkGet, hfind, -List.getElem?_map]
          exact (congrArg (coneEnd m R gh) (lp_next hstep rfl)).mpr hrec
        · rw [if_neg hin] at hfind
          have hwt := wtF_ins hno hin
          have hset := mset_mapB acc n
          have hI2 : CInv m R (insL acc n) (rest ++ leanOf m n) := by
            refine ⟨fun a ha => ?_, fun a ha => ?_, fun a ha => ?_, fun a ha b hb => ?_, fun r hr => ?_⟩
            · rcases insL_mem.1 ha with h | rfl
              · exact hI.no a h
              · exact hno
            · rcases insL_mem.1 ha with h | rfl
              · exact hI.snd a h
              · exact hn
            · rcases List.mem_append.1 ha with h | h
              · exact hI.td a (by simp [h])
              · exact .step hn hno h
            · rcases insL_mem.1 ha with h | rfl
              · rcases hI.cl a h b hb with h | h
                · exact .inl (insL_mem.2 (.inl h))
                · rcases List.mem_append.1 h with h | h
                  · exact .inr (by simp [h])
                  · simp at h; subst h; exact .inl (insL_mem.2 (.inr rfl))
              · exact .inr (by simp [hb])
            · rcases hI.roots r hr with h | h
              · exact .inl (insL_mem.2 (.inl h))
              · rcases List.mem_append.1 h with h | h
                · exact .inr (by simp [h])
                · simp at h; subst h; exact .inl (insL_mem.2 (.inr rfl))
          have hll : (leanP m (plM m) n.toNat).length = (leanOf m n).length := by rw [leanP_eq hno]
          obtain ⟨hkl, hkt⟩ := conK_take m (plM m) n.toNat
          rw [leanP_eq hno] at hkt
          rw [hll] at hkl
          have hrec := ih (insL acc n) (rest ++ leanOf m n) (tg + 1) (tc.take rest.length ++ (conK m (plM m) n.toNat).take (leanOf m n).length) (by simp only [List.length_append]; omega) (by simp only [List.length_append]; omega) hI2
            (by simp only [List.length_append, List.length_take]; omega) (by
              rw [hkt, hT3, ← List.map_append, List.take_of_length_le (by simp)])
          have hfl : ((conK m (plM m) n.toNat).take (leanOf m n).length).all isFlat = true := by rw [hkt]; exact flat_ints _
          have hstep : runL pg f_model_Cone_b3 (cone3St m acc (rest ++ [n]) tg tc gh) = some (.normal, cone3St m (insL acc n) (rest ++ leanOf m n) (tg + 1) (tc.take rest.length ++ (conK m (plM m) n.toNat).take (leanOf m n).length) gh) := by
            refine D_model_Cone_b3_ok ?_
            unfold cone3St
            rw [← hGm, hlen, List.length_append]
            have hget := boxK_get (g := gh.length) (ps := plM m) hno
            rw [hll] at hget
            have hbd : (rest.length + (leanOf m n).length) * 8 ≤ maxBytes := by omega
            have hcl2 : rest.length ≤ tc.length := by omega
            have htl : ((conK m (plM m) n.toNat).take (leanOf m n).length).length = (leanOf m n).length := by rw [hkt]; simp
            have hgm := hgm (mapB acc) (.stk tg tc)
            have hgt1 := hgt (.map (mapB acc)) tg tc
            have hgt2 := hgt (.map (mapB (insL acc n))) tg tc
            have hsm := hsm (mapB acc) (mapB (insL acc n)) (.stk tg tc)
            have hgc := hgc [.map (mapB (insL acc n)), .stk tg tc]
            have hgs := hgs n.toNat [.map (mapB (insL acc n)), .stk tg tc] h1
            have hss := hss (.map (mapB (insL acc n))) (.stk tg tc)
            have hap : ((gh.length + 1 + n.toNat) != (gh.length + 1 + m.nodes.length + 1)) = true := by simp; omega
            unfold stkK at hgs
            generalize gh.length + 1 + n.toNat = k1 at *
            generalize gh.length + 1 + m.nodes.length + 1 = n2 at *
            generalize gh.length + 1 + m.nodes.length = n1 at *
            generalize conK m (plM m) n.toNat = K at *
            generalize genOf (plM m) n.toNat = kg at *
            generalize (leanOf m n).length = kl at *
            generalize boxK m gh.length (plM m) = C at *
            generalize Gm ++ [GObj.map (mapB acc), .stk tg tc] = G at *
            generalize Gm ++ [GObj.map (mapB (insL acc n)), .stk tg tc] = G2 at *
            simp [D_model_Cone_b3, hli, hlj, hw, hnn, hge, h0, hlt, hgm, hgt1, hgt2, hgc, hgs, hsm, hss, hset, hfind, hget, hbd, hcl2, hT2, hkl, hap, hfl, htl, stkGet, ghStk, elsOf, apart, -List.getElem?_map, -List.all_eq_true]
          exact (congrArg (coneEnd m R gh) (lp_next hstep rfl)).mpr hrec
      · have hroot : n ∈ R := (reach_no hm hn).resolve_left hno
        refine .inr ⟨[.map (mapB acc), .stk tg tc], ?_, lp_ret (D_model_Cone_b3_ok ?_)⟩
        · unfold rootsOk
          exact List.all_eq_false.2 ⟨n, hroot, by simp [hno]⟩
        · rw [← hGm, hlen]
          have hgm := hgm (mapB acc) (.stk tg tc)
          have hgt := hgt (.map (mapB acc)) tg tc
          generalize gh.length + 1 + m.nodes.length + 1 = n2 at *
          generalize gh.length + 1 + m.nodes.length = n1 at *
          generalize Gm ++ [GObj.map (mapB acc), .stk tg tc] = G at *
          by_cases hnn : n < 0
          · simp [D_model_Cone_b3, hli, hlj, hw, hnn, hgt, hT2, stkGet, -List.getElem?_map]
          · have hge : (m.nodes.length : Int) ≤ n := by
              refine Classical.byContradiction fun h => hno ⟨by omega, by omega⟩
            simp [D_model_Cone_b3, hli, hlj, hw, hnn, hge, hgt, hT2, stkGet, -List.getElem?_map]

end
end Go.Lw
end

/-! Cones: the program's, whole. -/
section
namespace Go.Lw
open Go
section
variable {m : Md} {gh : List GObj} {R : List Int}

theorem cone_l4 {acc : List Int} {mi n : Nat} {G : List GObj} (hG : G[mi]? = some (.map (mapB acc))) (hn : n ≤ 1000) : ∀ k i (out : List Int), i + k = n → out.length ≤ i →
    runL pg f_model_Cone_l4 ⟨[(12, .mp mi), (15, .sl true 1 (out.map I)), (105, I n), (106, I (i : Int))], [], G⟩ =
      some (.normal, ⟨[(15, .sl true 1 ((out ++ selF (fun i => decide ((i : Int) ∈ acc)) i k).map I))], [], G⟩)
  | 0, i, out, h, _ => by
    have hlt : ¬ (i : Int) < (n : Int) := by omega
    refine (lp_exit (s1 := ?s1) (D_model_Cone_b4_ok ?h1)).trans ?r1
    case h1 => simp only [D_model_Cone_b4, decide_eq_false hlt, br_false]; rfl
    case r1 => simp [keep, stays, selF]
  | k + 1, i, out, h, ho => by
    have hltI : (i : Int) < (n : Int) := by omega
    have e2 : IntKind.i64.wrap ((i : Int) + 1) = ((i + 1 : Nat) : Int) := by rw [wrap_id (by omega) (by omega)]; omega
    have hf := mfind_mapB acc (i : Int)
    have hmx : (out.length + 1) * 8 ≤ maxBytes := by
      have : maxBytes = 140737488355328 := rfl
      omega
    have k4 : ∀ o : List PV, runL pg f_model_Cone_k4 ⟨[(12, .mp mi), (15, .sl true 1 o), (105, I n), (106, I (i : Int))], [], G⟩ = some (.normal, ⟨[(12, .mp mi), (15, .sl true 1 o), (105, I n), (106, I ((i + 1 : Nat) : Int))], [], G⟩) := fun o => by
      refine D_model_Cone_k4_ok ?_
      simp [D_model_Cone_k4, e2]
    rw [selF]
    have hol : (out.map I).length = out.length := by simp
    by_cases hin : (i : Int) ∈ acc
    · rw [if_pos hin] at hf
      rw [if_pos (by simpa using hin)]
      have e : out ++ (i : Int) :: selF (fun i => decide ((i : Int) ∈ acc)) (i + 1) k = (out ++ [(i : Int)]) ++ selF (fun i => decide ((i : Int) ∈ acc)) (i + 1) k := by simp
      rw [e]
      have k4 := k4 (out.map I ++ [I (i : Int)])
      refine lp_next (s1 := ⟨[(12, .mp mi), (15, .sl true 1 ((out ++ [(i : Int)]).map I)), (105, I n), (106, I ((i + 1 : Nat) : Int))], [], G⟩) (D_model_Cone_b4_ok ?_) (cone_l4 hG hn k (i + 1) _ (by omega) (by simp; omega))
      simp only [List.map_append, List.map_cons, List.map_nil]
      generalize out.map I = O at *
      simp only [D_model_Cone_b4, decide_eq_true hltI]
      simp [hG, hf, hol, hmx, k4]
    · rw [if_neg hin] at hf
      rw [if_neg (by simpa using hin)]
      have k4 := k4 (out.map I)
      refine lp_next (s1 := ⟨[(12, .mp mi), (15, .sl true 1 (out.map I)), (105, I n), (106, I ((i + 1 : Nat) : Int))], [], G⟩) (D_model_Cone_b4_ok ?_) (cone_l4 hG hn k (i + 1) _ (by omega) (by omega))
      generalize out.map I = O at *
      simp only [D_model_Cone_b4, decide_eq_true hltI]
      simp [hG, hf, k4]

theorem cone_k3 {acc : List Int} {mi : Nat} {G : List GObj} (hG : G[mi]? = some (.map (mapB acc))) (hl : m.nodes.length ≤ 1000) :
    runL pg f_model_Cone_k3 ⟨[(2, .ptr false 0 0), (12, .mp mi)], [mcells m], G⟩ = some (.ret, ⟨[(4, .sl false 1 ((selF (fun i => decide ((i : Int) ∈ acc)) 0 m.nodes.length).map I)), (5, I 0)], [], G⟩) := by
  have l4 := cone_l4 hG hl m.nodes.length 0 [] (by omega) (by simp)
  simp only [List.nil_append, List.map_nil, Int.natCast_zero] at l4
  generalize (selF (fun i => decide ((i : Int) ∈ acc)) 0 m.nodes.length).map I = K at *
  have k5 := D_model_Cone_k5_ok (pg := pg) (gh := G) (v15 := .sl true 1 K) (e := .ret) (s := ⟨[(4, .sl false 1 K), (5, I 0)], [], G⟩) (by simp [D_model_Cone_k5])
  refine D_model_Cone_k3_ok ?_
  simp [D_model_Cone_k3, l4, k5]

open Classical in
/-- What the second half comes to. -/
theorem cone_k2 (hm : MdGood m) (hR : R.length * 8 ≤ 140737488351232) : ∃ l, runL pg f_model_Cone_k2 ⟨[(1, LI R), (2, .ptr false 0 0), (7, .bs true gh.length 0 m.nodes.length 1)], [mcells m], GK gh m (plM m)⟩ =
    if rootsOk m R = true then some (.ret, ⟨[(4, .sl false 1 ((selF (fun i => decide (Reach m R (i : Int))) 0 m.nodes.length).map I)), (5, I 0)], [], GK gh m (plM m) ++ l⟩)
    else some (.ret, ⟨[(4, .sl true 1 []), (5, I 5)], [], GK gh m (plM m) ++ l⟩) := by
  have hgl := GK_len (gh := gh) (m := m) (plM m)
  have hl : m.nodes.length ≤ 1000 := by have := hm.len; omega
  have hmx : maxBytes = 140737488355328 := rfl
  have hsel : ∀ acc : List Int, (∀ a, a ∈ acc ↔ Reach m R a) → selF (fun i => decide ((i : Int) ∈ acc)) 0 m.nodes.length = selF (fun i => decide (Reach m R (i : Int))) 0 m.nodes.length := fun acc h =>
    selF_congr fun j _ _ => by simp only [h]
  by_cases hr : R = []
  · subst hr
    have hex := cone_exit (m := m) (R := []) (gh := gh) (acc := []) (tg := 0) (tc := [])
    have hno : ∀ a, a ∈ ([] : List Int) ↔ Reach m [] a := fun a => ⟨fun h => (by cases h), fun h => by
      exfalso
      induction h with
      | root h => cases h
      | step _ _ _ ih => exact ih⟩
    have hcl := CloneK_nil (gh := GK gh m (plM m) ++ [.map []]) (o := false)
    have hG : (GK gh m (plM m) ++ [.map (mapB [])])[(GK gh m (plM m)).length]? = some (.map (mapB [])) := by simp
    have k3 := cone_k3 (m := m) hG hl
    rw [hsel [] hno] at k3
    refine ⟨[.map []], ?_⟩
    rw [if_pos (show rootsOk m [] = true from rfl)]
    have l3 : runL pg f_model_Cone_l3 ⟨[(2, .ptr false 0 0), (7, .bs true gh.length 0 m.nodes.length 1), (12, .mp (GK gh m (plM m)).length), (13, .sl true 1 [])], [mcells m], GK gh m (plM m) ++ [.map []]⟩ =
        some (.normal, ⟨[(2, .ptr false 0 0), (12, .mp (GK gh m (plM m)).length)], [mcells m], GK gh m (plM m) ++ [.map []]⟩) := by
      refine (lp_exit (s1 := ?s1) (D_model_Cone_b3_ok ?h1)).trans ?r1
      case h1 => simp [D_model_Cone_b3]; rfl
      case r1 => simp [keep, stays]
    have hmb : mapB [] = [] := rfl
    rw [hmb] at k3
    refine D_model_Cone_k2_ok ?_
    simp only [D_model_Cone_k2, mcells] at *
    generalize (selF (fun i => decide (Reach m [] (i : Int))) 0 m.nodes.length).map I = K at *
    generalize GK gh m (plM m) ++ [.map []] = G2 at *
    generalize (GK gh m (plM m)).length = gl at *
    simp [hcl, l3, k3]
  · have hcl := CloneK_eq (gh := GK gh m (plM m) ++ [.map []]) (o := false) (xs := R) (by omega) hr
    have hI : CInv m R [] R := ⟨fun a h => (by cases h), fun a h => (by cases h), fun a h => .root h, fun a h => (by cases h), fun r h => .inr h⟩
    have hw := wtF_le hm []
    have l3 := cone_l3 (gh := gh) hm _ [] R 1 (R.map I) (Nat.le_refl _) (by omega) hI (by simp) (by rw [List.take_of_length_le (by simp)])
    unfold cone3St at l3
    have hlen2 : (GK gh m (plM m) ++ [GObj.map []]).length = gh.length + 1 + m.nodes.length + 1 := by simp [hgl]
    have hmb : mapB [] = [] := rfl
    have happ : (GK gh m (plM m) ++ [GObj.map []]) ++ [.stk 1 (R.map I)] = GK gh m (plM m) ++ [.map [], .stk 1 (R.map I)] := by simp
    rw [hmb] at l3
    rw [happ, hlen2] at hcl
    rcases l3 with ⟨acc, l, ha, hro, l3⟩ | ⟨l, hro, l3⟩
    · refine ⟨.map (mapB acc) :: l, ?_⟩
      rw [if_pos hro]
      have hG : (GK gh m (plM m) ++ (.map (mapB acc) :: l))[gh.length + 1 + m.nodes.length]? = some (.map (mapB acc)) := by
        rw [List.getElem?_append_right (by omega), hgl, Nat.sub_self]; rfl
      have k3 := cone_k3 (m := m) hG hl
      rw [hsel acc ha] at k3
      refine D_model_Cone_k2_ok ?_
      simp only [D_model_Cone_k2, mcells] at *
      rw [hgl]
      generalize (selF (fun i => decide (Reach m R (i : Int))) 0 m.nodes.length).map I = K at *
      generalize GK gh m (plM m) ++ (.map (mapB acc) :: l) = G3 at *
      generalize GK gh m (plM m) ++ [.map [], .stk 1 (R.map I)] = G4 at *
      generalize GK gh m (plM m) ++ [.map []] = G2 at *
      simp [hcl, l3, k3]
    · refine ⟨l, ?_⟩
      rw [if_neg (by rw [hro]; simp)]
      refine D_model_Cone_k2_ok ?_
      simp only [D_model_Cone_k2, mcells] at *
      rw [hgl]
      generalize GK gh m (plM m) ++ l = G3 at *
      generalize GK gh m (plM m) ++ [.map [], .stk 1 (R.map I)] = G4 at *
      generalize GK gh m (plM m) ++ [.map []] = G2 at *
      simp [hcl, l3]

open Classical in
theorem Cone_eq (hR : R.length * 8 ≤ 140737488351232) (h1 : Sz m.inits.length) (h2 : Sz m.nexts.length) : callL pg 42 [modelV m, LI R] gh = some (.tup [LI (coneL m R), I (coneE m R)], gh) := by
  have hc := MCheck_eq (m := m) (gh := gh) h1 h2
  unfold coneL coneE
  by_cases h0 : checkE m = 0
  · have he : (if checkE m ≠ 0 then checkE m else if rootsOk m R = true then 0 else 5) = if rootsOk m R = true then (0 : Int) else 5 := if_neg (fun h => h h0)
    rw [he]
    have hm := good_of h0
    have hl : m.nodes.length ≤ 1000 := by have := hm.len; omega
    rw [h0] at hc
    have len1 : ∀ {l : List (Int × Int)}, (l.map (·.1)).Nodup → (∀ p ∈ l, isNo m.nodes p.1) → l.length ≤ 80 := fun {l} hd hp => by
      have hs := List.Nodup.length_le_of_subset hd (l₂ := (List.range m.nodes.length).map fun (i : Nat) => (i : Int)) (fun a ha => by
        obtain ⟨p, hp', rfl⟩ := List.mem_map.1 ha
        have := hp p hp'
        have h3 := this.1
        have h4 := this.2
        exact List.mem_map.2 ⟨p.1.toNat, List.mem_range.2 h4, by omega⟩)
      have := hm.len
      simp at hs
      omega
    have hi := len1 hm.nod1 (fun p hp => (hm.pairs p (List.mem_append.2 (.inl hp))).1)
    have hx := len1 hm.nod2 (fun p hp => (hm.pairs p (List.mem_append.2 (.inr hp))).1)
    have l1 := cone_l1 (m := m) (gh := gh) (R := R) hl m.nodes.length 0 (by omega)
    have l2 := cone_l2 (m := m) (gh := gh) (R := R) hl (pl := plM m) (fun p hp => (hm.pairs p hp).1) (by simp only [plM, List.length_append]; omega) (plM m).length 0 (by omega)
    unfold cone1St at l1
    unfold cone2St at l2
    rw [List.take_zero] at l2
    rw [G1_zero] at l1
    simp only [Int.natCast_zero] at l1 l2
    have hcc := Concat2_eq (gh := GK gh m []) (X := m.inits.map andV) (Y := m.nexts.map andV) (noGs_pairs _) (noGs_pairs _) (by
      have : maxBytes = 140737488355328 := rfl
      simp; omega)
    rw [← List.map_append] at hcc
    have hpl : (plM m).length = m.inits.length + m.nexts.length := by simp [plM]
    have hgl := GK_len (gh := gh) (m := m) (plM m)
    have htk0 : ∀ l, (GK gh m (plM m) ++ l).take gh.length = gh := fun l => by
      rw [List.take_append_of_le_length (by omega)]; unfold GK; simp
    obtain ⟨l, k2⟩ := cone_k2 (gh := gh) (R := R) hm hR
    have htk := htk0 l
    have hn0 : noGs ((selF (fun i => decide (Reach m R (i : Int))) 0 m.nodes.length).map I) = true := noGs_ints _
    have k1 : ∀ s, runL pg f_model_Cone_k2 ⟨[(1, LI R), (2, .ptr false 0 0), (7, .bs true gh.length 0 m.nodes.length 1)], [mcells m], GK gh m (plM m)⟩ = some (.ret, s) → runL pg f_model_Cone_k1 ⟨[(1, LI R), (2, .ptr false 0 0), (7, .bs true gh.length 0 m.nodes.length 1)], [mcells m], GK gh m []⟩ = some (.ret, s) := fun s h => by
      refine D_model_Cone_k1_ok ?_
      have hpl2 : (plM m).length = ((m.inits ++ m.nexts).map andV).length := by simp [plM]
      rw [hpl2] at l2
      simp only [LP, plM, mcells] at l2 h hcc ⊢
      generalize (m.inits ++ m.nexts).map andV = PL at *
      generalize GK gh m (m.inits ++ m.nexts) = G2 at *
      generalize GK gh m [] = G1 at *
      simp [D_model_Cone_k1, hcc, l2, h]
    rw [modelV_def] at *
    have hmk : (m.nodes.length : Int) * 24 ≤ (maxBytes : Int) := by
      have : maxBytes = 140737488355328 := rfl
      omega
    by_cases hro : rootsOk m R = true
    · rw [if_pos hro] at k2 ⊢
      rw [if_pos rfl]
      have k1 := k1 _ k2
      generalize hK : (selF (fun i => decide (Reach m R (i : Int))) 0 m.nodes.length).map I = K at *
      generalize GK gh m (plM m) ++ l = G3 at *
      generalize GK gh m [] = G1 at *
      refine callL_fn (fn := f_model_Cone) (s := ⟨[(4, .sl false 1 K), (5, I 0)], [], G3⟩) rfl rfl (D_model_Cone_0_ok ?h1) ?r1
      case h1 =>
        simp only [mcells] at *
        simp [D_model_Cone_0, hc, mkOk, hmk, l1, k1]
      case r1 =>
        simp [finish, results, f_model_Cone, resOfs, resOf, resOk, htk, hn0]
        rw [← hK]
    · rw [if_neg hro] at k2 ⊢
      rw [if_neg (by decide)]
      have k1 := k1 _ k2
      generalize GK gh m (plM m) ++ l = G3 at *
      generalize GK gh m [] = G1 at *
      refine callL_fn (fn := f_model_Cone) (s := ⟨[(4, .sl true 1 []), (5, I 5)], [], G3⟩) rfl rfl (D_model_Cone_0_ok ?h2) ?r2
      case h2 =>
        simp only [mcells] at *
        simp [D_model_Cone_0, hc, mkOk, hmk, l1, k1]
      case r2 => simp [finish, results, f_model_Cone, resOfs, resOf, resOk, htk]
  · rw [if_pos h0, if_neg h0]
    rw [modelV_def] at *
    generalize checkE m = r at *
    refine callL_fn (fn := f_model_Cone) (s := ⟨[(4, .sl true 1 []), (5, I r)], [], gh⟩) rfl rfl (D_model_Cone_0_ok ?h9) ?r9
    case h9 => simp [D_model_Cone_0, hc, h0]
    case r9 => simp [finish, results, f_model_Cone, resOfs, resOf, resOk]

end
end Go.Lw
end

/-! Cones: over and over, until nothing comes: plain. -/
section
namespace Go.Lw
open Go

abbrev FC := List Bool × Bool
structure PRel (S : Nat → Prop) (a b : FC) : Prop where
  len : b.1.length = a.1.length
  mono : ∀ i, a.1.getD i false = true → b.1.getD i false = true
  same : b.2 = false → a.2 = false ∧ b.1 = a.1
  cnt : b.1.count false ≤ a.1.count false
  dec : b.2 = true → a.2 = true ∨ b.1.count false < a.1.count false
  snd : (∀ i, a.1.getD i false = true → S i) → ∀ i, b.1.getD i false = true → S i

theorem PRel.refl (S : Nat → Prop) (a : FC) : PRel S a a := ⟨rfl, fun _ h => h, fun h => ⟨h, rfl⟩, Nat.le_refl _, fun h => .inl h, fun h => h⟩
theorem PRel.trans {S : Nat → Prop} {a b c : FC} (h : PRel S a b) (k : PRel S b c) : PRel S a c where
  len := k.len.trans h.len
  mono := fun i hi => k.mono i (h.mono i hi)
  same := fun hc => by
    obtain ⟨k1, k2⟩ := k.same hc
    obtain ⟨h1, h2⟩ := h.same k1
    exact ⟨h1, k2.trans h2⟩
  cnt := Nat.le_trans k.cnt h.cnt
  dec := fun hc => by
    rcases k.dec hc with h1 | h1
    · rcases h.dec h1 with h2 | h2
      · exact .inl h2
      · have := k.cnt; exact .inr (by omega)
    · have := h.cnt; exact .inr (by omega)
  snd := fun hs => k.snd (h.snd hs)

section
variable {m : Md} {R : List Int}

end
end Go.Lw
end

/-! The law ModelCones, of the machine: it answers true. -/
section
namespace Go.Lw
open Go

theorem coneL_len {m : Md} {R : List Int} (h : coneE m R = 0) : (coneL m R).length ≤ 80 := by
  unfold coneL
  rw [if_pos h]
  have hc : checkE m = 0 := by
    unfold coneE at h
    exact Classical.byContradiction fun hn => by rw [if_pos hn] at h; exact hn h
  have := (good_of hc).len
  have h2 := selF_len (p := fun i => @decide (Reach m R (i : Int)) (Classical.propDecidable _)) (k := m.nodes.length) (i := 0)
  exact Nat.le_trans h2 this

theorem coneL_sz {m : Md} {R : List Int} : Sz (coneL m R).length := by
  by_cases h : coneE m R = 0
  · have := coneL_len h; simp only [Sz]; omega
  · unfold coneL; rw [if_neg h]; simp

theorem mdok_sz {m : Md} (hm : MdOk m) : Sz m.inits.length ∧ Sz m.nexts.length := by
  have h1 := hm.inits
  have h2 := hm.nexts
  have : reachBytes = 140737488351232 := rfl
  simp only [Sz]; omega

end Go.Lw
end

/-! The law ModelAgain, of the machine: it answers true. -/
section
namespace Go.Lw
open Go

section
variable {m : Md} {gh : List GObj} {R : List Int}

theorem Has_loop {l : List Int} {n : Int} (hs : Sz l.length) : ∀ k i, i + k = l.length →
    runL pg f_ref_Has_l1 ⟨[(0, LI l), (1, I n), (5, I (i : Int))], [], gh⟩ = if n ∈ l.drop i then some (.ret, ⟨[(4, B true)], [], gh⟩) else some (.normal, ⟨[], [], gh⟩)
  | 0, i, h => by
    rw [List.drop_eq_nil_of_le (by omega), if_neg (by simp)]
    have hlt : ¬ i < l.length := by omega
    refine (lp_exit (s1 := ?s1) (D_ref_Has_b1_ok ?h1)).trans ?r1
    case h1 => simp only [D_ref_Has_b1]; simp [hlt]; rfl
    case r1 => simp [keep]
  | k + 1, i, h => by
    have hlt : i < l.length := by omega
    have hltD : decide (i < l.length) = true := decide_eq_true hlt
    have e2 : IntKind.i64.wrap ((i : Int) + 1) = ((i + 1 : Nat) : Int) := wrap_nat (by simp only [Sz] at hs ⊢; omega)
    have hg : (l.map I)[i]? = some (I l[i]) := by simp [List.getElem?_eq_getElem hlt]
    have hrec := Has_loop (n := n) hs k (i + 1) (by omega)
    rw [List.drop_eq_getElem_cons hlt]
    generalize l[i] = a at *
    by_cases he : a = n
    · rw [if_pos (by simp [he])]
      refine lp_ret (D_ref_Has_b1_ok ?_)
      simp only [D_ref_Has_b1]
      simp [hltD, hg, he, -List.getElem?_map]
    · have hmem : (n ∈ a :: l.drop (i + 1)) = (n ∈ l.drop (i + 1)) := by
        have : ¬ n = a := fun e => he e.symm
        simp [this]
      simp only [hmem]
      refine lp_next (s1 := ⟨[(0, LI l), (1, I n), (5, I ((i + 1 : Nat) : Int))], [], gh⟩) (D_ref_Has_b1_ok ?_) hrec
      simp only [D_ref_Has_b1]
      simp [hltD, hg, he, e2, -List.getElem?_map]

theorem Has_eq {l : List Int} {n : Int} (hs : Sz l.length) (hn : n ∈ l) : callL pg 45 [LI l, I n] gh = some (B true, gh) := by
  have h := Has_loop (gh := gh) (n := n) hs l.length 0 (by omega)
  rw [List.drop_zero, if_pos hn] at h
  simp only [Int.natCast_zero] at h
  refine callL_fn (fn := f_ref_Has) (s := ⟨[(4, B true)], [], gh⟩) rfl rfl (D_ref_Has_0_ok ?h1) ?r1
  case h1 =>
    simp only [LI] at *
    generalize l.map I = L at *
    simp [D_ref_Has_0, h]
  case r1 => simp [finish, results, f_ref_Has, resOfs, resOf, resOk]

theorem selF_rise {p : Nat → Bool} : ∀ {k i : Nat}, (selF p i k).Pairwise (· < ·) ∧ ∀ a ∈ selF p i k, (i : Int) ≤ a
  | 0, i => ⟨List.Pairwise.nil, fun a h => (by cases h)⟩
  | k + 1, i => by
    obtain ⟨h1, h2⟩ := selF_rise (p := p) (k := k) (i := i + 1)
    rw [selF]
    split
    · refine ⟨List.pairwise_cons.2 ⟨fun a ha => by have := h2 a ha; omega, h1⟩, fun a ha => ?_⟩
      rcases List.mem_cons.1 ha with rfl | ha
      · exact Int.le_refl _
      · have := h2 a ha; omega
    · exact ⟨h1, fun a ha => by have := h2 a ha; omega⟩

theorem coneE_zero (h : coneE m R = 0) : checkE m = 0 ∧ rootsOk m R = true := by
  unfold coneE at h
  by_cases hc : checkE m = 0
  · rw [if_neg (fun hn => hn hc)] at h
    refine ⟨hc, ?_⟩
    cases hr : rootsOk m R with
    | true => rfl
    | false => rw [hr, if_neg (by simp)] at h; cases h
  · rw [if_pos hc] at h; exact absurd h hc

theorem coneL_mem (h : coneE m R = 0) {a : Int} : a ∈ coneL m R ↔ Reach m R a := by
  obtain ⟨hc, hr⟩ := coneE_zero h
  have hm := good_of hc
  have hR : ∀ r ∈ R, isNo m.nodes r := fun r hr' => by simpa using List.all_eq_true.1 hr r hr'
  unfold coneL
  rw [if_pos h, selF_mem]
  constructor
  · rintro ⟨j, -, -, hp, rfl⟩
    simpa using hp
  · intro ha
    have hno : isNo m.nodes a := (reach_no hm ha).elim id (hR a)
    have h0 := hno.1
    have e : ((a.toNat : Nat) : Int) = a := by omega
    refine ⟨a.toNat, Nat.zero_le _, by have := hno.2; omega, ?_, e.symm⟩
    simp only [decide_eq_true_eq]
    rw [e]; exact ha

theorem coneL_def (h : coneE m R = 0) : coneL m R = selF (fun i => @decide (Reach m R (i : Int)) (Classical.propDecidable _)) 0 m.nodes.length := by
  unfold coneL; rw [if_pos h]

theorem again (h : coneE m R = 0) : coneE m (coneL m R) = 0 ∧ coneL m (coneL m R) = coneL m R := by
  obtain ⟨hc, hr⟩ := coneE_zero h
  have hm := good_of hc
  have hR : ∀ r ∈ R, isNo m.nodes r := fun r hr' => by simpa using List.all_eq_true.1 hr r hr'
  have hro : rootsOk m (coneL m R) = true := by
    unfold rootsOk
    refine List.all_eq_true.2 fun a ha => decide_eq_true ?_
    have := (coneL_mem h).1 ha
    exact (reach_no hm this).elim id (hR a)
  have he : coneE m (coneL m R) = 0 := by unfold coneE; rw [if_neg (fun hn => hn hc), if_pos hro]
  refine ⟨he, ?_⟩
  have hre : ∀ a, Reach m (coneL m R) a ↔ Reach m R a := fun a => by
    constructor
    · intro ha
      induction ha with
      | root h1 => exact (coneL_mem h).1 h1
      | step _ h2 h3 ih => exact .step ih h2 h3
    · intro ha; exact .root ((coneL_mem h).2 ha)
  exact (coneL_def he).trans ((selF_congr fun j _ _ => decide_eq_decide.2 (hre (j : Int))).trans (coneL_def h).symm)

theorem ma_l1 {K : List Int} (hK : Sz K.length) (hs : Sz R.length) (hh : ∀ r ∈ R, r ∈ K) : ∀ k i, i + k = R.length →
    runL pg f_law_ModelAgain_l1 ⟨[(1, LI R), (2, .ptr false 0 0), (5, LI K), (7, I (i : Int))], [mcells m], gh⟩ = some (.normal, ⟨[(2, .ptr false 0 0), (5, LI K)], [mcells m], gh⟩)
  | 0, i, h => by
    have hlt : ¬ i < R.length := by omega
    refine (lp_exit (s1 := ?s1) (D_law_ModelAgain_b1_ok ?h1)).trans ?r1
    case h1 => simp only [D_law_ModelAgain_b1]; simp [hlt]; rfl
    case r1 => simp [keep, stays]
  | k + 1, i, h => by
    have hlt : i < R.length := by omega
    have hltD : decide (i < R.length) = true := decide_eq_true hlt
    have e2 : IntKind.i64.wrap ((i : Int) + 1) = ((i + 1 : Nat) : Int) := wrap_nat (by simp only [Sz] at hs ⊢; omega)
    have hg : (R.map I)[i]? = some (I R[i]) := by simp [List.getElem?_eq_getElem hlt]
    have hha := Has_eq (gh := gh) hK (hh _ (List.getElem_mem hlt))
    refine lp_next (s1 := ⟨[(1, LI R), (2, .ptr false 0 0), (5, LI K), (7, I ((i + 1 : Nat) : Int))], [mcells m], gh⟩) (D_law_ModelAgain_b1_ok ?_) (ma_l1 hK hs hh k (i + 1) (by omega))
    generalize R[i] = a at *
    simp only [D_law_ModelAgain_b1, LI] at *
    generalize K.map I = KK at *
    simp [hltD, hg, hha, e2, -List.getElem?_map]

theorem ma_l2 {K : List Int} (hK : Sz K.length) (hr : K.Pairwise (· < ·)) : ∀ k i, 1 ≤ i → (i + k = K.length ∨ (k = 0 ∧ K.length ≤ i)) →
    runL pg f_law_ModelAgain_l2 ⟨[(2, .ptr false 0 0), (5, LI K), (8, I (i : Int))], [mcells m], gh⟩ = some (.normal, ⟨[(2, .ptr false 0 0), (5, LI K)], [mcells m], gh⟩)
  | 0, i, _, h => by
    have hlt : ¬ (i : Int) < (K.length : Int) := by omega
    have hltN : ¬ i < K.length := by omega
    refine (lp_exit (s1 := ?s1) (D_law_ModelAgain_b2_ok ?h1)).trans ?r1
    case h1 => simp only [D_law_ModelAgain_b2]; simp [hltN]; rfl
    case r1 => simp [keep, stays]
  | k + 1, i, h1, h => by
    have hlt : i < K.length := by omega
    have e2 : IntKind.i64.wrap ((i : Int) + 1) = ((i + 1 : Nat) : Int) := wrap_nat (by simp only [Sz] at hK ⊢; omega)
    obtain ⟨j, rfl⟩ : ∃ j, i = j + 1 := ⟨i - 1, by omega⟩
    have e3 : IntKind.i64.wrap (j : Int) = (j : Int) := wrap_id (by omega) (by simp only [Sz] at hK; omega)
    have hg : (K.map I)[j + 1]? = some (I K[j + 1]) := by simp [List.getElem?_eq_getElem hlt]
    have hg2 : (K.map I)[j]? = some (I K[j]) := by simp [List.getElem?_eq_getElem (show j < K.length by omega)]
    have hlt2 : K[j] < K[j + 1] := List.pairwise_iff_getElem.1 hr j (j + 1) (by omega) hlt (by omega)
    refine lp_next (s1 := ⟨[(2, .ptr false 0 0), (5, LI K), (8, I ((j + 1 + 1 : Nat) : Int))], [mcells m], gh⟩) (D_law_ModelAgain_b2_ok ?_) (ma_l2 hK hr k (j + 1 + 1) (by omega) (by omega))
    generalize K[j] = a at *
    generalize K[j + 1] = b at *
    have hle : ¬ b ≤ a := by omega
    have e2' : IntKind.i64.wrap ((j : Int) + 1 + 1) = (j : Int) + 1 + 1 := by
      have := e2
      rw [show (((j + 1 : Nat) : Int) + 1) = (j : Int) + 1 + 1 by omega] at this
      rw [this]; omega
    have h0 : (0 : Int) ≤ (j : Int) + 1 := by omega
    have ht : ((j : Int) + 1).toNat = j + 1 := by omega
    simp only [D_law_ModelAgain_b2]
    have hltI : (j : Int) + 1 < (K.length : Int) := by omega
    simp [hltI, hg, hg2, e3, e2', hle, h0, ht, -List.getElem?_map]

theorem ModelAgain_eq (hm : MdOk m) (hR : R.length * 8 ≤ reachBytes) : callL pg 44 [modelV m, LI R] gh = some (B true, gh) := by
  have hrb : reachBytes = 140737488351232 := rfl
  obtain ⟨h1, h2⟩ := mdok_sz hm
  have hc := Cone_eq (m := m) (R := R) (gh := gh) (by omega) h1 h2
  have bg := modelBegun_eq (gh := gh)
  by_cases h0 : coneE m R = 0
  · have hlen := coneL_len h0
    have hsz := coneL_sz (m := m) (R := R)
    obtain ⟨g1, g2⟩ := again h0
    have hc2 := Cone_eq (m := m) (R := coneL m R) (gh := gh) (by omega) h1 h2
    rw [g1, g2] at hc2
    rw [h0] at hc
    have hsm := SameInts_refl (gh := gh) hsz
    have hro := (coneE_zero h0).2
    have hin : ∀ r ∈ R, r ∈ coneL m R := fun r hr => (coneL_mem h0).2 (.root hr)
    have hrise : (coneL m R).Pairwise (· < ·) := by unfold coneL; rw [if_pos h0]; exact selF_rise.1
    have l1 := ma_l1 (m := m) (gh := gh) hsz (by simp only [Sz]; omega) hin R.length 0 (by omega)
    have l2 := ma_l2 (m := m) (gh := gh) hsz hrise ((coneL m R).length - 1) 1 (Nat.le_refl _) (by omega)
    simp only [Int.natCast_zero, Int.natCast_one] at l1 l2
    rw [modelV_def] at *
    simp only [LI, mcells] at *
    generalize (coneL m R).map I = K at *
    generalize R.map I = RR at *
    have k2 : runL pg f_law_ModelAgain_k2 ⟨[(2, .ptr false 0 0), (5, .sl false 1 K)], [[LN m.nodes, LP m.inits, LP m.nexts, .sl false 1 (m.bads.map I), .sl false 1 (m.holds.map I)]], gh⟩ = some (.ret, ⟨[(4, B true)], [], gh⟩) := by
      refine D_law_ModelAgain_k2_ok ?_
      simp [D_law_ModelAgain_k2, hc2, hsm]
    have k1 : runL pg f_law_ModelAgain_k1 ⟨[(2, .ptr false 0 0), (5, .sl false 1 K)], [[LN m.nodes, LP m.inits, LP m.nexts, .sl false 1 (m.bads.map I), .sl false 1 (m.holds.map I)]], gh⟩ = some (.ret, ⟨[(4, B true)], [], gh⟩) := by
      refine D_law_ModelAgain_k1_ok ?_
      simp [D_law_ModelAgain_k1, l2, k2]
    refine callL_fn (fn := f_law_ModelAgain) (s := ⟨[(4, B true)], [], gh⟩) rfl rfl (D_law_ModelAgain_0_ok ?h1) ?r1
    case h1 => simp [D_law_ModelAgain_0, hc, bg, l1, k1]
    case r1 => simp [finish, results, f_law_ModelAgain, resOfs, resOf, resOk]
  · have hcl : coneL m R = [] := by unfold coneL; rw [if_neg h0]
    rw [hcl] at hc
    rw [modelV_def] at *
    simp only [LI, List.map_nil] at *
    generalize R.map I = RR at *
    generalize coneE m R = r at *
    refine callL_fn (fn := f_law_ModelAgain) (s := ⟨[(4, B true)], [], gh⟩) rfl rfl (D_law_ModelAgain_0_ok ?h2) ?r2
    case h2 => simp [D_law_ModelAgain_0, hc, bg, h0]
    case r2 => simp [finish, results, f_law_ModelAgain, resOfs, resOf, resOk]

end

abbrev insModelAgain : List (Bool × List CS) := [(true, modelC), (false, [.slice false 8 [.int]])]

theorem modelAgain_true (qs : List PV) (h : argsTy insModelAgain qs) : callL pg 44 qs [] = some (B true, []) := by
  obtain ⟨_, _, rfl, h0, h⟩ := argsTy_cons h
  obtain ⟨_, _, rfl, h1, h⟩ := argsTy_cons h
  obtain rfl := argsTy_nil h
  obtain ⟨m, rfl, hm⟩ := model_ty h0
  obtain ⟨R, rfl, -, hR⟩ := ints_ty h1
  exact ModelAgain_eq hm hR

end Go.Lw
end
