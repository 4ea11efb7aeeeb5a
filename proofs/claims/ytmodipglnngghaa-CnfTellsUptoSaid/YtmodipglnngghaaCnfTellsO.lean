/-
  The texts that the proof stands on, part 15.
-/
import Derived.Test.YtmodipglnngghaaCnfTellsN
import Derived.OpenShut
import Derived.Carry
import Derived.Deep.Slices
import Derived.SizedLaws
set_option linter.unusedVariables false
set_option linter.unusedSimpArgs false
set_option linter.unnecessarySimpa false

/-! What is handed in from outside, opened: whatever the arguments are, they stand for values of the machine. -/
section
namespace Go.Lw
open Go Go.RowKit Go.ChangeShapes Go.WideShapes Go.Deep

/-- What a cell may hold. -/
inductive CS where
  | int
  | bool
  | str
  | slice (g : Bool) (bytes : Nat) (l : List CS)

mutual
def csOk : CS → PV → Prop
  | .int, p => ∃ n, p = .int .i64 n ∧ -9223372036854775808 ≤ n ∧ n ≤ 9223372036854775807
  | .bool, p => ∃ b, p = .bool b
  | .str, p => ∃ s, p = .str s ∧ s.size ≤ reachBytes
  | .slice g bytes l, p => ∃ xs, p = .sl false l.length xs ∧ xs.length * bytes ≤ reachBytes ∧ ∀ e ∈ xs, (g = true ∧ ∃ ps, e = .agg ps ∧ csAll l ps) ∨ (g = false ∧ csAll l [e])
def csAll : List CS → List PV → Prop
  | [], [] => True
  | c :: cs, p :: ps => csOk c p ∧ csAll cs ps
  | _, _ => False
end

/- How much there is: each value and each letter counts one. -/
mutual
def bulkP : PV → Nat
  | .str s => s.size + 1
  | .agg ps => bulkPs ps + 1
  | .sl _ _ xs => bulkPs xs + 1
  | _ => 1
def bulkPs : List PV → Nat
  | [] => 0
  | p :: r => bulkP p + bulkPs r
end

section
variable {H : Type}
mutual
def bulk : DataW H → Nat
  | .slice elems _ => bulkAll elems + 1
  | .agg parts => bulkAll parts + 1
  | .lit (.string b) => b.length + 1
  | _ => 1
def bulkAll : List (DataW H) → Nat
  | [] => 0
  | d :: r => bulk d + bulkAll r
end
end

theorem bulkP_pos (p : PV) : 1 ≤ bulkP p := by
  cases p <;> simp [bulkP]

theorem bulkPs_len : ∀ l : List PV, l.length ≤ bulkPs l
  | [] => Nat.zero_le _
  | p :: l => by
    have := bulkP_pos p
    have := bulkPs_len l
    simp only [bulkPs, List.length_cons]; omega

theorem bulkPs_append : ∀ l m : List PV, bulkPs (l ++ m) = bulkPs l + bulkPs m
  | [], m => by simp [bulkPs]
  | p :: l, m => by simp only [List.cons_append, bulkPs, bulkPs_append l m]; omega

theorem bulkPs_mem {p : PV} : ∀ {l : List PV}, p ∈ l → bulkP p ≤ bulkPs l
  | q :: l, h => by
    rcases List.mem_cons.1 h with rfl | h
    · simp only [bulkPs]; omega
    · have := bulkPs_mem h
      simp only [bulkPs]; omega

theorem bulkPs_sum {H : Type} (D : Nat → DataW H) : ∀ (xs : List PV) (n i : Nat), xs.length = n → (∀ j e, xs[j]? = some e → bulkP e ≤ bulk (D (i + j))) → bulkPs xs ≤ bulkAll ((List.range' i n).map D)
  | [], 0, i, _, _ => Nat.zero_le _
  | x :: xs, n + 1, i, hl, h => by
    have h0 := h 0 x rfl
    have hs := bulkPs_sum D xs n (i + 1) (by simpa using hl) fun j e he => by
      have := h (j + 1) e (by simpa using he)
      rwa [Nat.add_assoc, Nat.add_comm 1 j]
    simp only [bulkPs, List.range'_succ, List.map_cons, bulkAll]
    exact Nat.add_le_add h0 hs
  | [], n + 1, _, hl, _ => by simp at hl
  | _ :: _, 0, _, hl, _ => by simp at hl

theorem csAll_len : ∀ {l : List CS} {ps : List PV}, csAll l ps → ps.length = l.length
  | [], [], _ => rfl
  | _ :: _, _ :: _, h => by
    simp only [csAll] at h
    simp [csAll_len h.2]
  | [], _ :: _, h => by simp [csAll] at h
  | _ :: _, [], h => by simp [csAll] at h

theorem csAll_append : ∀ {l m : List CS} {ps qs : List PV}, csAll l ps → csAll m qs → csAll (l ++ m) (ps ++ qs)
  | [], _, [], _, _, h => h
  | _ :: _, _, _ :: _, _, h, h2 => by
    simp only [csAll] at h
    exact ⟨h.1, csAll_append h.2 h2⟩
  | [], _, _ :: _, _, h, _ => by simp [csAll] at h
  | _ :: _, _, [], _, h, _ => by simp [csAll] at h

theorem csOk_one {c : CS} {p : PV} (h : csOk c p) : p.one = true := by
  cases c <;> simp only [csOk] at h
  · obtain ⟨n, rfl, _⟩ := h; rfl
  · obtain ⟨b, rfl⟩ := h; rfl
  · obtain ⟨b, rfl, _⟩ := h; rfl
  · obtain ⟨xs, rfl, _⟩ := h; rfl

theorem csAll_one : ∀ {l : List CS} {ps : List PV}, csAll l ps → ps.all PV.one = true
  | [], [], _ => rfl
  | _ :: _, _ :: _, h => by
    simp only [csAll] at h
    simp [csOk_one h.1, csAll_one h.2]
  | [], _ :: _, h => by simp [csAll] at h
  | _ :: _, [], h => by simp [csAll] at h

theorem csAll_single {l : List CS} {p : PV} (h : csAll l [p]) : p.cells = [p] := by
  cases l with
  | nil => simp [csAll] at h
  | cons c l =>
    simp only [csAll] at h
    have h1 := h.1
    cases c <;> simp only [csOk] at h1
    · obtain ⟨n, rfl, _⟩ := h1; rfl
    · obtain ⟨b, rfl⟩ := h1; rfl
    · obtain ⟨b, rfl, _⟩ := h1; rfl
    · obtain ⟨xs, rfl, _⟩ := h1; rfl

def repN : Nat → List CS → List CS
  | 0, _ => []
  | n + 1, l => l ++ repN n l

theorem repN_len (n : Nat) (l : List CS) : (repN n l).length = n * l.length := by
  induction n with
  | zero => simp [repN]
  | succ n ih => rw [repN, List.length_append, ih, Nat.succ_mul]; omega

theorem cell_lt {w : World} {a : Addr} {v : Value} (h : w.cell? a = some v) : a.block < w.heap.size := by
  rcases Nat.lt_or_ge a.block w.heap.size with h1 | h1
  · exact h1
  · simp [World.cell?, Array.getElem?_eq_none h1] at h

def isAgg (P : Program) (t : TypeId) : Bool := match P.underlying t with | some (.struct _) | some (.array _ _) => true | _ => false

mutual
/-- The cells of a type. -/
def shape (P : Program) : Nat → TypeId → Option (List CS)
  | 0, _ => none
  | n + 1, t => match P.underlying t with
    | some .bool => some [.bool]
    | some (.int .i64) => some [.int]
    | some .string => some [.str]
    | some (.slice e) => match shape P n e with
      | some l => if P.cellsOf e = l.length ∧ (isAgg P e = true ∨ l.length = 1) ∧ 0 < l.length then some [.slice (isAgg P e) (P.bytesOf e) l] else none
      | none => none
    | some (.array k e) => match shape P n e with
      | some l => if P.cellsOf e = l.length ∧ P.cellsOf t = k * l.length then some (repN k l) else none
      | none => none
    | some (.struct fs) => match fieldsShape P n 0 fs.toList with
      | some l => if P.cellsOf t = l.length then some l else none
      | none => none
    | _ => none
def fieldsShape (P : Program) : Nat → Nat → List Field → Option (List CS)
  | 0, _, _ => none
  | _ + 1, _, [] => some []
  | n + 1, off, f :: fs => match shape P n f.type with
    | some l => if f.offset = off ∧ P.cellsOf f.type = l.length then (match fieldsShape P n (off + l.length) fs with | some r => some (l ++ r) | none => none) else none
    | none => none
end

/-- What is told of cells, one by one. -/
def Reps (fi : Nat → Option Nat) (w : World) (ps : List PV) (cs : List Value) : Prop := ps.length = cs.length ∧ ∀ (i : Nat) (p : PV) (v : Value), ps[i]? = some p → cs[i]? = some v → RepP fi (Mem.start w) w p v

section
variable {H : Type} {enc : TypeId × Value → H} {P : Program} {w : World} {sp : Nat → Bool} {held : Bool} {fi : Nat → Option Nat}

theorem Reps.append {ps qs : List PV} {cs ds : List Value} (h : Reps fi w ps cs) (k : Reps fi w qs ds) : Reps fi w (ps ++ qs) (cs ++ ds) := by
  refine ⟨by simp [h.1, k.1], fun i p v hp hv => ?_⟩
  by_cases hi : i < ps.length
  · rw [List.getElem?_append_left hi] at hp
    rw [List.getElem?_append_left (by rw [← h.1]; exact hi)] at hv
    exact h.2 i p v hp hv
  · rw [List.getElem?_append_right (by omega)] at hp
    rw [List.getElem?_append_right (by rw [← h.1]; omega)] at hv
    rw [← h.1] at hv
    exact k.2 _ p v hp hv

theorem Reps.single {p : PV} {v : Value} (h : RepP fi (Mem.start w) w p v) : Reps fi w [p] [v] := by
  refine ⟨rfl, fun i q u hq hu => ?_⟩
  cases i with
  | zero => simp at hq hu; subst hq; subst hu; exact h
  | succ i => simp at hq

theorem weightsAll_mem {e : TypeId} : ∀ {ds : List (DataW H)} {i : Nat} {d : DataW H} {b : Nat}, ds[i]? = some d → b ∈ d.weights P e → b ∈ DataW.weightsAll P e ds
  | x :: r, 0, d, b, h, hb => by
    simp at h; subst h
    rw [DataW.weightsAll]; exact List.mem_append_left _ hb
  | x :: r, i + 1, d, b, h, hb => by
    rw [DataW.weightsAll]
    exact List.mem_append_right _ (weightsAll_mem (i := i) (by simpa using h) hb)

theorem ex_list {Q : Nat → PV → Prop} : ∀ (n : Nat), (∀ i, i < n → ∃ e, Q i e) → ∃ xs : List PV, xs.length = n ∧ ∀ i e, xs[i]? = some e → Q i e
  | 0, _ => ⟨[], rfl, fun i e h => by simp at h⟩
  | n + 1, h => by
    obtain ⟨xs, hl, hx⟩ := ex_list n fun i hi => h i (by omega)
    obtain ⟨e, he⟩ := h n (by omega)
    refine ⟨xs ++ [e], by simp [hl], fun i u hu => ?_⟩
    by_cases hi : i < xs.length
    · rw [List.getElem?_append_left hi] at hu; exact hx i u hu
    · rw [List.getElem?_append_right (by omega)] at hu
      have : i = n := by
        have := (List.getElem?_eq_some_iff.1 hu).1
        simp at this; omega
      subst this
      rw [hl] at hu; simp at hu; subst hu; exact he

def TypeOk (fi : Nat → Option Nat) (enc : TypeId × Value → H) (P : Program) (w : World) (sp : Nat → Bool) (held : Bool) (t : TypeId) (l : List CS) : Prop :=
  ∀ fuel cs x, DataW.trod enc P w 0 sp held fuel t cs = some x → (∀ b ∈ x.1.weights P t, b ≤ reachBytes) → ∃ ps, csAll l ps ∧ bulkPs ps + (isAgg P t).toNat ≤ bulk x.1 ∧ Reps fi w ps cs

theorem arr_ok {e : TypeId} {l : List CS} (hok : TypeOk fi enc P w sp held e l) {m : Nat} {cs : List Value} {xs : List (DataW H × List MemPlace)}
    (hx : ∀ j, j < xs.length → DataW.trod enc P w 0 sp held m e ((cs.drop (j * l.length)).take l.length) = xs[j]?) (hw : ∀ b ∈ DataW.weightsAll P e (xs.map (·.1)), b ≤ reachBytes) :
    ∀ k i, i + k = xs.length → ∃ ps, csAll (repN k l) ps ∧ bulkPs ps ≤ bulkAll ((xs.map (·.1)).drop i) ∧ Reps fi w ps ((cs.drop (i * l.length)).take (k * l.length))
  | 0, i, _ => ⟨[], by simp [repN, csAll], by simp [bulkPs], by simp [Reps]⟩
  | k + 1, i, hi => by
    have hlt : i < xs.length := by omega
    have h1 := hx i hlt
    rw [List.getElem?_eq_getElem hlt] at h1
    obtain ⟨ps, hp, hb1, hr⟩ := hok _ _ _ h1 fun b hb => hw b (weightsAll_mem (i := i) (by simp [List.getElem?_eq_getElem hlt]) hb)
    obtain ⟨qs, hq, hb2, hs⟩ := arr_ok hok hx hw k (i + 1) (by omega)
    refine ⟨ps ++ qs, csAll_append hp hq, ?_, ?_⟩
    · rw [bulkPs_append, List.drop_eq_getElem_cons (by simpa using hlt), bulkAll]
      simp only [List.getElem_map]; omega
    have : (cs.drop (i * l.length)).take ((k + 1) * l.length) = (cs.drop (i * l.length)).take l.length ++ (cs.drop ((i + 1) * l.length)).take (k * l.length) := by
      rw [Nat.succ_mul k, Nat.add_comm (k * l.length), List.take_add, List.drop_drop, Nat.succ_mul i]
    rw [this]
    exact hr.append hs

theorem fields_ok (n : Nat) (ih : ∀ k, k ≤ n → ∀ t l, shape P k t = some l → TypeOk fi enc P w sp held t l) :
    ∀ (k : Nat) (_ : k ≤ n + 1) (fs : List Field) (off : Nat) (l : List CS), fieldsShape P k off fs = some l → ∀ (cs : List Value) (xs : List (DataW H × List MemPlace)) (m : Nat), xs.length = fs.length →
      (∀ (i : Nat) (f : Field), fs[i]? = some f → DataW.trod enc P w 0 sp held m f.type ((cs.drop f.offset).take (P.cellsOf f.type)) = xs[i]?) →
      (∀ b ∈ DataW.weightsEach P (fs.map (·.type)) (xs.map (·.1)), b ≤ reachBytes) → ∃ ps, csAll l ps ∧ bulkPs ps ≤ bulkAll (xs.map (·.1)) ∧ Reps fi w ps ((cs.drop off).take l.length)
  | 0, _, fs, off, l, h, _, _, _, _, _, _ => by simp [fieldsShape] at h
  | k + 1, _, [], off, l, h, cs, xs, m, hl, hx, hw => by
    simp [fieldsShape] at h; subst h
    exact ⟨[], by simp [csAll], by simp [bulkPs], by simp [Reps]⟩
  | k + 1, hk, f :: fs, off, l, h, cs, xs, m, hl, hx, hw => by
    cases xs with
    | nil => simp at hl
    | cons x xs =>
      rw [fieldsShape] at h
      split at h
      · rename_i l1 hs1
        split at h
        · rename_i hc
          split at h
          · rename_i r hr
            simp at h; subst h
            have h0 := hx 0 f (by simp)
            simp only [List.getElem?_cons_zero] at h0
            rw [hc.1, hc.2] at h0
            obtain ⟨ps, hp, hb1, hrp⟩ := ih k (by omega) _ _ hs1 _ _ _ h0 fun b hb => hw b (by
              simp only [List.map_cons, DataW.weightsEach]; exact List.mem_append_left _ hb)
            obtain ⟨qs, hq, hb2, hrq⟩ := fields_ok n ih k (by omega) fs (off + l1.length) r hr cs xs m (by simpa using hl) (fun i g hg => by simpa using hx (i + 1) g (by simpa using hg)) (fun b hb => hw b (by
              simp only [List.map_cons, DataW.weightsEach]; exact List.mem_append_right _ hb))
            refine ⟨ps ++ qs, csAll_append hp hq, by rw [bulkPs_append, List.map_cons, bulkAll]; omega, ?_⟩
            rw [List.length_append, List.take_add, List.drop_drop]
            exact hrp.append hrq
          · cases h
        · cases h
      · cases h

theorem shape_ok : ∀ (n : Nat) (t : TypeId) (l : List CS), shape P n t = some l → TypeOk fi enc P w sp held t l := by
  intro n
  induction n using Nat.strongRecOn with
  | ind n ih =>
  cases n with
  | zero => intro t l h; simp [shape] at h
  | succ n =>
    intro t l h fuel cs x hx hw
    rw [shape] at h
    split at h
    · rename_i ht
      simp at h; subst h
      obtain ⟨b, rfl, rfl⟩ := DataW.trod_bool ht hx
      exact ⟨[.bool b], ⟨⟨b, rfl⟩, trivial⟩, by simp [bulkPs, bulkP, bulk, isAgg, ht], Reps.single (.bool b)⟩
    · rename_i ht
      simp at h; subst h
      obtain ⟨b, rfl, rfl, hwf⟩ := DataW.trod_int ht hx
      refine ⟨[.int .i64 b], ⟨⟨b, rfl, ?_⟩, trivial⟩, by simp [bulkPs, bulkP, bulk, isAgg, ht], Reps.single (.int .i64 b)⟩
      simp [Lit.wf, IntKind.min, IntKind.max, IntKind.signed, IntKind.bits] at hwf
      omega
    · rename_i ht
      simp at h; subst h
      obtain ⟨b, rfl, rfl, _⟩ := DataW.trod_string ht hx
      refine ⟨[.str b], ⟨⟨b, rfl, ?_⟩, trivial⟩, by simp [bulkPs, bulkP, bulk, isAgg, ht], Reps.single (.str b)⟩
      have := hw b.size (by simp [DataW.weights])
      exact this
    · rename_i e ht
      split at h
      · rename_i l1 hs1
        split at h
        · rename_i hc
          simp at h; subst h
          rcases open_slice ht hx with ⟨rfl, rfl⟩ | ⟨a, len, cap, m, n', D, Pl, rfl, _, hlc, hcm, hm, rfl, hi⟩
          · refine ⟨[.sl false l1.length []], ⟨⟨[], rfl, by simp, fun e he => by simp at he⟩, trivial⟩, by simp [bulkPs, bulkP, bulk, bulkAll, isAgg, ht], Reps.single ?_⟩
            exact .sl l1.length [] none 0 0 0 (fun _ => undef) (.inl rfl) (by simp) (fun e he => by simp at he) (fun e he => by simp at he) (fun i e j p he => by simp at he) (fun i e j p he => by simp at he)
          · have hlm : len ≤ m := by rw [hm]; split <;> omega
            have hwl : len * P.bytesOf e ≤ reachBytes := by
              have := hw ((len + (m - len)) * P.bytesOf e) (by
                rw [DataW.weights, ht]; simp)
              refine Nat.le_trans (Nat.mul_le_mul_right _ ?_) this; omega
            have key : ∀ i, i < len → ∃ u, bulkP u ≤ bulk (D i) ∧ (∃ ps : List PV, u.cells = ps ∧ csAll l1 ps ∧ ((isAgg P e = true ∧ u = .agg ps) ∨ (isAgg P e = false ∧ csAll l1 [u]))) ∧
                ∀ (j : Nat) (p : PV), u.cells[j]? = some p → ∃ v, w.cell? (a.add (i * P.cellsOf e + j)) = some v ∧ RepP fi (Mem.start w) w p v := by
              intro i hil
              obtain ⟨cs', hcells, htr⟩ := hi i (by omega)
              obtain ⟨ps, hp, hb1, hr⟩ := ih n (by omega) _ _ hs1 _ _ _ htr fun b hb => hw b (by
                rw [DataW.weights, ht]
                refine List.mem_cons_of_mem _ (List.mem_append_left _ (weightsAll_mem (i := i) ?_ hb))
                simp [List.getElem?_range, hil])
              obtain ⟨_, hcl, hat⟩ := World.cells?_some hcells
              have hpl := csAll_len hp
              have hget : ∀ (j : Nat) (p : PV), ps[j]? = some p → ∃ v, w.cell? (a.add (i * P.cellsOf e + j)) = some v ∧ RepP fi (Mem.start w) w p v := by
                intro j p hj
                have hjl : j < ps.length := (List.getElem?_eq_some_iff.1 hj).1
                have hjc : j < cs'.length := by rw [← hr.1]; exact hjl
                refine ⟨cs'[j], ?_, hr.2 j p _ hj (List.getElem?_eq_getElem hjc)⟩
                rw [← Go.Deep.add_add, hat j (by omega), List.getElem?_eq_getElem hjc]
              cases hg : isAgg P e with
              | true => exact ⟨.agg ps, by rw [bulkP]; simpa [hg] using hb1, ⟨ps, rfl, hp, .inl ⟨rfl, rfl⟩⟩, hget⟩
              | false =>
                have h1 : l1.length = 1 := hc.2.1.resolve_left (by simp [hg])
                obtain ⟨p0, rfl⟩ : ∃ p0, ps = [p0] := by
                  cases ps with
                  | nil => simp at hpl; omega
                  | cons p0 ps => cases ps with
                    | nil => exact ⟨p0, rfl⟩
                    | cons q qs => simp at hpl; omega
                have hcl0 := csAll_single hp
                exact ⟨p0, by simp [bulkPs] at hb1; omega, ⟨[p0], hcl0, hp, .inr ⟨rfl, hp⟩⟩, by rw [hcl0]; exact hget⟩
            obtain ⟨xs, hxl, hxs⟩ := ex_list len key
            have hmem : ∀ u ∈ xs, ∃ i, xs[i]? = some u := fun u hu => List.getElem?_of_mem hu
            refine ⟨[.sl false l1.length xs], ⟨⟨xs, rfl, by rw [hxl]; exact hwl, fun u hu => ?_⟩, trivial⟩, ?_, Reps.single ?_⟩
            · obtain ⟨i, hiu⟩ := hmem u hu
              obtain ⟨_, ⟨ps, hcps, hall, hor⟩, _⟩ := hxs i u hiu
              rcases hor with ⟨h1, h2⟩ | ⟨h1, h2⟩
              · exact .inl ⟨h1, ps, h2, hall⟩
              · exact .inr ⟨h1, h2⟩
            · have := bulkPs_sum D xs len 0 hxl fun j e he => by
                have := (hxs j e he).1
                rwa [Nat.zero_add]
              rw [← List.range_eq_range'] at this
              simp only [bulkPs, bulkP, bulk, isAgg, ht]; simpa using this
            · have hspot : xs = [] ∨ a.spot = none := by
                cases xs with
                | nil => exact .inl rfl
                | cons u us =>
                  refine .inr ?_
                  obtain ⟨_, ⟨ps, hcps, hall, hor⟩, hcel⟩ := hxs 0 u rfl
                  have hl1 := csAll_len hall
                  by_cases hz : ps = []
                  · rw [hz] at hl1
                    have := hc.2.2
                    simp at hl1; omega
                  · obtain ⟨p, ps', rfl⟩ := List.exists_cons_of_ne_nil hz
                    obtain ⟨v, hv, _⟩ := hcel 0 p (by rw [hcps]; rfl)
                    have := World.cell?_spot hv
                    simpa [Addr.add] using this
              have hcellE : P.cellsOf e = l1.length := hc.1
              rw [show len = xs.length from hxl.symm]
              refine .sl l1.length xs (some a) cap a.block a.off (fun k => (w.cell? ⟨a.block, a.off + k, none⟩).getD undef) ?_ (by omega) (fun u hu => ?_) (fun u hu => ?_) (fun i u j p hu hp => ?_) (fun i u j p hu hp => ?_)
              · rcases hspot with h | h
                · exact .inl h
                · refine .inr ?_
                  cases a; simp at h; subst h; rfl
              · obtain ⟨i, hiu⟩ := hmem u hu
                obtain ⟨_, ⟨ps, hcps, hall, _⟩, _⟩ := hxs i u hiu
                rw [hcps]; exact csAll_len hall
              · obtain ⟨i, hiu⟩ := hmem u hu
                obtain ⟨_, ⟨ps, hcps, hall, _⟩, _⟩ := hxs i u hiu
                rw [argOk, hcps]; exact csAll_one hall
              · obtain ⟨_, _, hcel⟩ := hxs i u hu
                obtain ⟨v, hv, hrep⟩ := hcel j p hp
                rw [hcellE] at hv
                have ha : a.add (i * l1.length + j) = ⟨a.block, a.off + (i * l1.length + j), none⟩ := by
                  have hs : a.spot = none := hspot.resolve_left fun h => by rw [h] at hu; simp at hu
                  cases a; simp at hs; subst hs
                  unfold Addr.add; split
                  · rename_i h0; rw [h0]; rfl
                  · rfl
                rw [ha] at hv
                refine ⟨?_, by rw [hv]; rfl⟩
                exact cell_lt (a := ⟨a.block, a.off + (i * l1.length + j), none⟩) hv
              · obtain ⟨_, _, hcel⟩ := hxs i u hu
                obtain ⟨v, hv, hrep⟩ := hcel j p hp
                rw [hcellE] at hv
                have ha : a.add (i * l1.length + j) = ⟨a.block, a.off + (i * l1.length + j), none⟩ := by
                  have hs : a.spot = none := hspot.resolve_left fun h => by rw [h] at hu; simp at hu
                  cases a; simp at hs; subst hs
                  unfold Addr.add; split
                  · rename_i h0; rw [h0]; rfl
                  · rfl
                rw [ha] at hv
                rw [hv]; exact hrep
        · cases h
      · cases h
    · rename_i k e ht
      split at h
      · rename_i l1 hs1
        split at h
        · rename_i hc
          simp at h; subst h
          obtain ⟨xs, m, rfl, rfl, hcl, hxl, hi⟩ := DataW.trod_array ht hx
          obtain ⟨ps, hp, hb1, hr⟩ := arr_ok (ih n (by omega) _ _ hs1) (cs := cs) (xs := xs) (m := m) (fun j hj => by rw [← hc.1]; exact hi j (by omega)) (fun b hb => hw b (by rw [DataW.weights, ht]; exact hb)) k 0 (by omega)
          refine ⟨ps, hp, by rw [bulk]; simp [isAgg, ht]; simpa using hb1, ?_⟩
          rw [Nat.zero_mul, List.drop_zero, ← hc.2, ← hcl, List.take_length] at hr
          exact hr
        · cases h
      · cases h
    · rename_i fs ht
      split at h
      · rename_i l1 hs1
        split at h
        · rename_i hc
          simp at h; subst h
          obtain ⟨xs, m, rfl, rfl, hcl, hxl, hi⟩ := DataW.trod_struct ht hx
          obtain ⟨ps, hp, hb1, hr⟩ := fields_ok n (fun k hk => ih k (by omega)) n (by omega) fs.toList 0 l1 hs1 cs xs m (by simpa using hxl) (fun i f hf => hi i f (by simpa using hf)) (fun b hb => hw b (by rw [DataW.weights, ht]; exact hb))
          refine ⟨ps, hp, by rw [bulk]; simp [isAgg, ht]; simpa using hb1, ?_⟩
          rw [List.drop_zero, ← hc, ← hcl, List.take_length] at hr
          exact hr
        · cases h
      · cases h
    · cases h

/-- An argument: is it a row of cells, and which. -/
def argTy : Bool × List CS → PV → Prop
  | (true, l), p => ∃ ps, p = .agg ps ∧ csAll l ps
  | (false, l), p => csAll l [p]

def argsTy : List (Bool × List CS) → List PV → Prop
  | [], [] => True
  | c :: cs, p :: ps => argTy c p ∧ argsTy cs ps
  | _, _ => False

def shapes (P : Program) (n : Nat) : List TypeId → Option (List (Bool × List CS))
  | [] => some []
  | t :: ts => match shape P n t, shapes P n ts with
    | some l, some r => some ((isAgg P t, l) :: r)
    | _, _ => none

theorem argsTy_cons {c : Bool × List CS} {cs : List (Bool × List CS)} {qs : List PV} (h : argsTy (c :: cs) qs) : ∃ p ps, qs = p :: ps ∧ argTy c p ∧ argsTy cs ps := by
  cases qs with
  | nil => simp [argsTy] at h
  | cons p ps => exact ⟨p, ps, rfl, h⟩

theorem argsTy_nil {qs : List PV} (h : argsTy [] qs) : qs = [] := by
  cases qs with
  | nil => rfl
  | cons p ps => simp [argsTy] at h

theorem csAll_cons {c : CS} {cs : List CS} {qs : List PV} (h : csAll (c :: cs) qs) : ∃ p ps, qs = p :: ps ∧ csOk c p ∧ csAll cs ps := by
  cases qs with
  | nil => simp [csAll] at h
  | cons p ps => exact ⟨p, ps, rfl, h⟩

theorem csAll_nil {qs : List PV} (h : csAll [] qs) : qs = [] := by
  cases qs with
  | nil => rfl
  | cons p ps => simp [csAll] at h

theorem argTy_int {p : PV} (h : argTy (false, [.int]) p) : ∃ n, p = .int .i64 n ∧ -9223372036854775808 ≤ n ∧ n ≤ 9223372036854775807 := by
  obtain ⟨q, ps, e, h1, h2⟩ := csAll_cons h
  cases csAll_nil h2
  simp only [List.cons.injEq, and_true] at e
  subst e
  exact h1

theorem argTy_agg {l : List CS} {p : PV} (h : argTy (true, l) p) : ∃ ps, p = .agg ps ∧ csAll l ps := h

theorem csOk_int {p : PV} (h : csOk .int p) : ∃ n, p = .int .i64 n ∧ -9223372036854775808 ≤ n ∧ n ≤ 9223372036854775807 := h

theorem argTy_ok {c : Bool × List CS} {p : PV} (h : argTy c p) : argOk p = true := by
  obtain ⟨g, l⟩ := c
  cases g with
  | true =>
    obtain ⟨ps, rfl, h⟩ := h
    exact csAll_one h
  | false => rw [argOk, csAll_single h]; exact csAll_one h

theorem argsTy_ok : ∀ {L : List (Bool × List CS)} {ps : List PV}, argsTy L ps → ∀ p ∈ ps, argOk p = true
  | [], [], _, p, hp => by simp at hp
  | _ :: _, q :: ps, h, p, hp => by
    simp only [argsTy] at h
    rcases List.mem_cons.1 hp with rfl | hp
    · exact argTy_ok h.1
    · exact argsTy_ok h.2 p hp
  | [], _ :: _, h, _, _ => by simp [argsTy] at h
  | _ :: _, [], h, _, _ => by simp [argsTy] at h

theorem arg_ok {n : Nat} {t : TypeId} {l : List CS} (hs : shape P n t = some l) {base : Nat} {v : Value} {d : DataW H} {ps : List MemPlace} (hv : Value.okWide P w .any base t v) (hd : DataW.Trod enc P w 0 sp held t v d ps)
    (hw : ∀ b ∈ d.weights P t, b ≤ reachBytes) : ∃ p, argTy (isAgg P t, l) p ∧ bulkP p ≤ bulk d ∧ RepP fi (Mem.start w) w p v := by
  obtain ⟨fuel, hf⟩ := hd
  obtain ⟨qs, hq, hb1, hr⟩ := shape_ok (fi := fi) n t l hs fuel _ _ hf hw
  have hone : v.cells.toList = [v] → isAgg P t = false → ∃ p, argTy (isAgg P t, l) p ∧ bulkP p ≤ bulk d ∧ RepP fi (Mem.start w) w p v := by
    intro hc hg
    rw [hc] at hr
    cases qs with
    | nil => have := hr.1; simp at this
    | cons q qs => cases qs with
      | cons r qs => have := hr.1; simp at this
      | nil => exact ⟨q, by rw [hg]; exact hq, by simp [bulkPs] at hb1; omega, hr.2 0 q v rfl rfl⟩
  have hagg : (∃ cs, v = .agg cs) → isAgg P t = true → ∃ p, argTy (isAgg P t, l) p ∧ bulkP p ≤ bulk d ∧ RepP fi (Mem.start w) w p v := by
    rintro ⟨cs, rfl⟩ hg
    refine ⟨.agg qs, by rw [hg]; exact ⟨qs, rfl, hq⟩, by rw [bulkP]; simpa [hg] using hb1, ?_⟩
    obtain ⟨cl⟩ := cs
    exact .agg qs cl hr.1.symm hr.2
  cases n with
  | zero => simp [shape] at hs
  | succ n =>
    rw [shape] at hs
    split at hs
    · rename_i ht
      obtain ⟨b, rfl⟩ := okWide_bool ht hv
      exact hone rfl (by simp [isAgg, ht])
    · rename_i ht
      obtain ⟨b, rfl⟩ := okWide_int ht hv
      exact hone rfl (by simp [isAgg, ht])
    · rename_i ht
      obtain ⟨b, rfl⟩ := okWide_string ht hv
      exact hone rfl (by simp [isAgg, ht])
    · rename_i e ht
      obtain ⟨a, b, c, rfl⟩ := okWide_slice ht hv
      exact hone rfl (by simp [isAgg, ht])
    · rename_i k e ht
      refine hagg ?_ (by simp [isAgg, ht])
      simp only [Value.okWide, ht] at hv
      obtain ⟨cs, h1, _⟩ := hv
      exact ⟨cs, h1⟩
    · rename_i fs ht
      refine hagg ?_ (by simp [isAgg, ht])
      simp only [Value.okWide, ht] at hv
      obtain ⟨cs, h1, _⟩ := hv
      exact ⟨cs, h1⟩
    · cases hs


theorem args_ok {n base : Nat} : ∀ {ts : List TypeId} {L : List (Bool × List CS)} {vs : List Value} {ds : List (DataW H)} {ps : List MemPlace}, shapes P n ts = some L → DataW.TrodAll enc P w 0 sp held ts vs ds ps →
    (∀ (j : Nat) t v, ts[j]? = some t → vs[j]? = some v → Value.okWide P w .any base t v) → (∀ b ∈ DataW.weightsEach P ts ds, b ≤ reachBytes) →
    ∃ qs, argsTy L qs ∧ bulkPs qs ≤ bulkAll ds ∧ qs.length = vs.length ∧ ∀ (i : Nat) (p : PV) (v : Value), qs[i]? = some p → vs[i]? = some v → RepP fi (Mem.start w) w p v
  | [], L, vs, ds, ps, hs, ht, _, _ => by
    obtain ⟨rfl, rfl, rfl⟩ := trodAll_nil ht
    simp [shapes] at hs; subst hs
    exact ⟨[], trivial, Nat.zero_le _, rfl, fun i p v h => by simp at h⟩
  | t :: ts, L, vs, ds, ps, hs, ht, hv, hw => by
    obtain ⟨v, vs', d, ds', p, q, rfl, rfl, rfl, h1, h2⟩ := trodAll_cons ht
    simp only [shapes] at hs
    split at hs
    · rename_i l r hl hr
      simp at hs; subst hs
      obtain ⟨a, ha, hb1, hra⟩ := arg_ok (fi := fi) hl (hv 0 t v rfl rfl) h1 fun b hb => hw b (by simp only [DataW.weightsEach]; exact List.mem_append_left _ hb)
      obtain ⟨qs, hq, hb2, hl, hrq⟩ := args_ok hr h2 (fun j t v h1 h2 => hv (j + 1) t v (by simpa using h1) (by simpa using h2)) (fun b hb => hw b (by simp only [DataW.weightsEach]; exact List.mem_append_right _ hb))
      refine ⟨a :: qs, ⟨ha, hq⟩, by rw [bulkPs, bulkAll]; omega, by simp [hl], fun i p v h1 h2 => ?_⟩
      cases i with
      | zero => simp at h1 h2; subst h1; subst h2; exact hra
      | succ i => exact hrq i p v (by simpa using h1) (by simpa using h2)
    · cases hs

theorem trodAll_below {W W' : World} (hl : laidOutB P = true) (hb : Below W.heap.size W W') : ∀ {ts : List TypeId} {vs : List Value} {ds : List (DataW H)} {ps : List MemPlace},
    (ts.all fun t => P.readableRec t && decide (t < P.types.size)) = true → DataW.TrodAll enc P W 0 (fun _ => true) true ts vs ds ps → DataW.TrodAll enc P W' 0 (fun b => decide (b < W.heap.size)) true ts vs ds ps
  | [], vs, ds, ps, _, h => by
    obtain ⟨rfl, rfl, rfl⟩ := trodAll_nil h
    exact h
  | t :: ts, vs, ds, ps, hr, h => by
    obtain ⟨v, vs', d, ds', p, q, rfl, rfl, rfl, h1, h2⟩ := trodAll_cons h
    simp only [List.all_cons, Bool.and_eq_true, decide_eq_true_eq] at hr
    have lt : ∀ x ∈ p, x.block < W.heap.size := by obtain ⟨m, hm⟩ := h1; exact DataW.trod_lt m _ _ _ hm
    exact ⟨p, q, Below.trod hl hr.1.1 hr.1.2 h1 hb lt, trodAll_below hl hb hr.2 h2, rfl⟩

end
end Go.Lw
end

/-! When the machine's functions stand for the program's: asked by one check over a list of both numbers; and what a law's row needs behind it. -/
section
namespace Go.Lw
open Go Go.RowKit

/-- Function f of the machine stands for function F of the program. -/
def linkF (P : Program) (fi : Nat → Option Nat) (pg : Prg) (f F : Nat) : Bool :=
  match P.funcs[F]? with
  | some Fn => match Fn.body with
    | some c => match pg f with
      | some (.code fn) => (!(Fn.name == "runtime.NumGoroutine")) && (matchC P fi Fn.ntmps fn.body c && mRes P fn.res Fn.results.toList)
      | _ => !(Fn.name == "runtime.NumGoroutine")
    | none => false
  | none => false

def isLib (pg : Prg) (f : Nat) : Bool := match pg f with | some (.lib _) => true | _ => false

theorem linkF_ok {P : Program} {fi : Nat → Option Nat} {pg : Prg} {f F : Nat} (h : linkF P fi pg f F = true) (hl : ∀ L, pg f = some (.lib L) → ∀ vs gh r gh', L vs gh = some (r, gh') → (∀ p ∈ vs, argOk p = true) → CallOk P fi F vs gh r gh') :
    HasBody P F ∧ match pg f with
    | some (.code fn) => ∃ Fn c, P.funcs[F]? = some Fn ∧ Fn.body = some c ∧ matchC P fi Fn.ntmps fn.body c = true ∧ mRes P fn.res Fn.results.toList = true
    | some (.lib L) => ∀ vs gh r gh', L vs gh = some (r, gh') → (∀ p ∈ vs, argOk p = true) → CallOk P fi F vs gh r gh'
    | none => True := by
  unfold linkF at h
  cases hF : P.funcs[F]? with
  | none => rw [hF] at h; cases h
  | some Fn =>
    rw [hF] at h; simp only at h
    cases hc : Fn.body with
    | none => rw [hc] at h; cases h
    | some c =>
      rw [hc] at h; simp only at h
      cases hp : pg f with
      | none =>
        rw [hp] at h
        exact ⟨⟨Fn, c, hF, by simpa using h, hc⟩, trivial⟩
      | some df =>
        cases df with
        | lib L =>
          rw [hp] at h
          exact ⟨⟨Fn, c, hF, by simpa using h, hc⟩, hl L hp⟩
        | code fn =>
          rw [hp] at h
          simp only [Bool.and_eq_true, Bool.not_eq_true'] at h
          exact ⟨⟨Fn, c, hF, h.1, hc⟩, Fn, c, rfl, hc, h.2.1, h.2.2⟩

def fiOf (l : List (Nat × Nat)) (f : Nat) : Option Nat := (l.find? (·.1 == f)).map (·.2)

theorem fiOf_mem {l : List (Nat × Nat)} {f F : Nat} (h : fiOf l f = some F) : (f, F) ∈ l := by
  unfold fiOf at h
  simp only [Option.map_eq_some_iff] at h
  obtain ⟨⟨a, b⟩, h1, rfl⟩ := h
  have h2 := List.find?_some h1
  have h3 := List.mem_of_find?_eq_some h1
  simp at h2; subst h2
  exact h3

theorem link_of {P : Program} {l : List (Nat × Nat)} {pg : Prg} (h : (l.all fun x => linkF P (fiOf l) pg x.1 x.2) = true)
    (hl : ∀ f F L, (f, F) ∈ l → pg f = some (.lib L) → ∀ vs gh r gh', L vs gh = some (r, gh') → (∀ p ∈ vs, argOk p = true) → CallOk P (fiOf l) F vs gh r gh') : LinkOk P (fiOf l) pg := by
  intro f F hf
  have hm := fiOf_mem hf
  rw [List.all_eq_true] at h
  exact linkF_ok (h _ hm) (fun L => hl f F L hm)

theorem link_nolib {P : Program} {l : List (Nat × Nat)} {pg : Prg} (h : (l.all fun x => linkF P (fiOf l) pg x.1 x.2) = true) (hn : (l.all fun x => !isLib pg x.1) = true) : LinkOk P (fiOf l) pg := by
  refine link_of h fun f F L hm hp => ?_
  rw [List.all_eq_true] at hn
  have := hn _ hm
  simp [isLib, hp] at this

/-- A law's row: the call answers true, and what there was is as it was. -/
theorem row_ok_bulk {H : Type} {enc : TypeId × Value → H} {P : Program} {fi : Nat → Option Nat} {pg : Prg} (hP : P.follows .mixedOrders = true) (hL : LinkOk P fi pg) {f F n : Nat} (hf : fi f = some F) {ts : List TypeId} {L : List (Bool × List CS)}
    (hs : shapes P n ts = some L) {N : Nat} (hlaw : ∀ qs, argsTy L qs → bulkPs qs ≤ N → callL pg f qs [] = some (.bool true, [])) {W : World} {base : Nat} {args : List Value} {ds : List (DataW H)} {ps : List MemPlace}
    (hA : DataW.TrodAll enc P W 0 (fun _ => true) true ts args ds ps) (hv : ∀ (j : Nat) t v, ts[j]? = some t → args[j]? = some v → Value.okWide P W .any base t v) (hw : (DataW.weightsEach P ts ds).all (· ≤ reachBytes) = true) (hN : bulkAll ds ≤ N) :
    Calls P F args.toArray W fun e W' => e = .returned (.bool true) ∧ Below W.heap.size W W' := by
  obtain ⟨qs, hq, hbk, hl, hr⟩ := args_ok (fi := fi) hs hA hv (by simpa using hw)
  refine (top_ok hP hL (hlaw qs hq (Nat.le_trans hbk hN)) (argsTy_ok hq) hf hl.symm hr).mono ?_
  rintro e w' ⟨v, M', rfl, _, hres, h1, h2, h3, h4, h5⟩
  refine ⟨?_, ⟨h1, h2, h3, h4, h5⟩⟩
  have : RepP fi M' w' (.bool true) v := hres
  cases this; rfl

theorem row_ok {H : Type} {enc : TypeId × Value → H} {P : Program} {fi : Nat → Option Nat} {pg : Prg} (hP : P.follows .mixedOrders = true) (hL : LinkOk P fi pg) {f F n : Nat} (hf : fi f = some F) {ts : List TypeId} {L : List (Bool × List CS)}
    (hs : shapes P n ts = some L) (hlaw : ∀ qs, argsTy L qs → callL pg f qs [] = some (.bool true, [])) {W : World} {base : Nat} {args : List Value} {ds : List (DataW H)} {ps : List MemPlace}
    (hA : DataW.TrodAll enc P W 0 (fun _ => true) true ts args ds ps) (hv : ∀ (j : Nat) t v, ts[j]? = some t → args[j]? = some v → Value.okWide P W .any base t v) (hw : (DataW.weightsEach P ts ds).all (· ≤ reachBytes) = true) :
    Calls P F args.toArray W fun e W' => e = .returned (.bool true) ∧ Below W.heap.size W W' :=
  row_ok_bulk hP hL hf hs (fun qs h _ => hlaw qs h) hA hv hw (Nat.le_refl _)

end Go.Lw
end

/-! The law GatesAnds, of the machine: it answers true. -/
section
namespace Go.Lw
open Go

section
variable {ins : Int} {ands : List (Int × Int)} {gh : List GObj}

def aoEnd (gh : List GObj) (ins : Int) (l0 : List PV) (r : PV) (n : Int) : St := ⟨[(6, .ptr false 1 0), (7, I n)], [l0, [I ins, r]], gh⟩

theorem AndOf_k2 (hi : 0 ≤ ins ∧ ins ≤ 1000) {n : Nat} (hn : n ≤ 1000000) (o : Bool) (l : List PV) (r0 : PV) :
    runL pg f_ref_AndOf_k2 ⟨[(3, .ptr false 0 0), (6, .ptr false 1 0), (8, I n)], [[I ins, .sl o 2 l], [I 0, r0]], gh⟩ = some (.ret, aoEnd gh ins [I ins, .sl o 2 l] (.sl false 2 l) (2 * (1 + ins + n))) := by
  have eN : IntKind.i64.wrap (2 * IntKind.i64.wrap (IntKind.i64.wrap (1 + ins) + (n : Int))) = 2 * (1 + ins + n) := by
    rw [wrap_id (n := 1 + ins) (by omega) (by omega), wrap_id (n := 1 + ins + n) (by omega) (by omega), wrap_id (by omega) (by omega)]
  refine D_ref_AndOf_k2_ok ?_
  simp [D_ref_AndOf_k2, eN, aoEnd]

theorem AndOf_k1 (hi : 0 ≤ ins ∧ ins ≤ 1000) (hl : ands.length ≤ 1000000) {a b : Int} (ha : 0 ≤ a ∧ a < 2002002) (hb : 0 ≤ b ∧ b < 2002002) :
    ∃ l0, runL pg f_ref_AndOf_k1 ⟨[(1, I a), (2, I b), (3, .ptr false 0 0), (6, .ptr false 1 0)], [[I ins, .sl false 2 (ands.map andV)], [I 0, .sl true 2 []]], gh⟩ =
      some (.ret, aoEnd gh ins l0 (.sl false 2 ((andR ins ands a b).1.map andV)) (andR ins ands a b).2) := by
  have ea : IntKind.i64.wrap (Int.tdiv a 2) = a / 2 := by rw [tdiv2 ha.1, wrap_id (by omega) (by omega)]
  have eb : IntKind.i64.wrap (Int.tdiv b 2) = b / 2 := by rw [tdiv2 hb.1, wrap_id (by omega) (by omega)]
  by_cases h1 : a = 0
  · refine ⟨_, D_ref_AndOf_k1_ok (e := .ret) (s := aoEnd gh ins [I ins, .sl false 2 (ands.map andV)] _ _) ?_⟩
    simp [D_ref_AndOf_k1, h1, andR, aoEnd]
  have e0 : ¬ (a / 2 = b / 2 ∧ a ≠ b) → andR ins ands a b = if a = 1 ∨ a = b then (ands, b) else match atA ands (a, b) with
    | some i => (ands, 2 * (1 + ins + i))
    | none => (ands ++ [(a, b)], 2 * nodesOf ins ands) := fun h2 => by unfold andR; rw [if_neg (by rintro (h | h); exact h1 h; exact h2 h)]; rfl
  by_cases h2 : a / 2 = b / 2
  · by_cases h3 : a = b
    · subst h3
      refine ⟨_, D_ref_AndOf_k1_ok (e := .ret) (s := aoEnd gh ins [I ins, .sl false 2 (ands.map andV)] _ _) ?_⟩
      rw [e0 (fun h => h.2 rfl), if_pos (.inr rfl)]
      by_cases h4 : a = 1
      · subst h4; simp [D_ref_AndOf_k1, aoEnd]
      · simp [D_ref_AndOf_k1, h1, h4, aoEnd]
    · refine ⟨_, D_ref_AndOf_k1_ok (e := .ret) (s := aoEnd gh ins [I ins, .sl false 2 (ands.map andV)] _ _) ?_⟩
      have e : andR ins ands a b = (ands, 0) := by unfold andR; rw [if_pos (.inr ⟨h2, h3⟩)]
      rw [e]
      simp [D_ref_AndOf_k1, h1, ea, eb, h2, h3, aoEnd]
  have h3 : a ≠ b := fun h => h2 (by rw [h])
  rw [e0 (fun h => h2 h.1)]
  by_cases h4 : a = 1
  · refine ⟨_, D_ref_AndOf_k1_ok (e := .ret) (s := aoEnd gh ins [I ins, .sl false 2 (ands.map andV)] _ _) ?_⟩
    rw [if_pos (.inl h4)]
    simp [D_ref_AndOf_k1, h1, ea, eb, h2, decide_eq_true h4, aoEnd]
  rw [if_neg (by rintro (h | h); exact h4 h; exact h3 h)]
  have hat := AndAt_eq (ins := ins) (gh := gh) (a := a) (b := b) (f := ands.length) (Nat.le_refl _) hl
  unfold graphV at hat
  rw [List.take_length] at hat
  cases hf : atA ands (a, b) with
  | some j =>
    rw [hf] at hat
    have hj : ¬ (j : Int) < 0 := by omega
    have hk := AndOf_k2 (gh := gh) hi (n := j) (by have := (atA_lt hf).1; omega) false (ands.map andV) (.sl true 2 [])
    refine ⟨_, D_ref_AndOf_k1_ok (e := .ret) (s := aoEnd gh ins [I ins, .sl false 2 (ands.map andV)] _ _) ?_⟩
    simp [D_ref_AndOf_k1, h1, ea, eb, h2, h3, h4, hat, hj, hk]
  | none =>
    rw [hf] at hat
    have hk := AndOf_k2 (gh := gh) hi (n := ands.length) hl true ((ands ++ [(a, b)]).map andV) (.sl true 2 [])
    have hmx : ands.length * 16 ≤ maxBytes := by
      have : maxBytes = 140737488355328 := rfl
      omega
    have hmx2 : (ands.length + 1) * 16 ≤ maxBytes := by
      have : maxBytes = 140737488355328 := rfl
      omega
    rw [List.map_append] at hk
    refine ⟨_, D_ref_AndOf_k1_ok (e := .ret) (s := aoEnd gh ins [I ins, .sl true 2 ((ands ++ [(a, b)]).map andV)] _ _) ?_⟩
    rw [List.map_append]
    simp only [List.map_cons, List.map_nil, andV] at hk ⊢
    have hk' : runL pg f_ref_AndOf_k2 ⟨[(3, .ptr false 0 0), (6, .ptr false 1 0), (8, I ands.length)], [[I ins, .sl true 2 (ands.map andV ++ [.agg [I a, I b]])], [I 0, .sl true 2 []]], gh⟩ = _ := hk
    simp [D_ref_AndOf_k1, h1, ea, eb, h2, h3, h4, hat, hmx, hmx2, hk', nodesOf]

theorem AndOf_eq (hi : 0 ≤ ins ∧ ins ≤ 1000) (hl : ands.length ≤ 1000000) {a b : Int} (ha : 0 ≤ a ∧ a < 2002002) (hb : 0 ≤ b ∧ b < 2002002) :
    callL pg 4 [graphV ins ands, I a, I b] gh = some (.tup [graphV ins (andOf ins ands a b).1, I (andOf ins ands a b).2], gh) := by
  by_cases h : b < a
  · obtain ⟨l0, hk⟩ := AndOf_k1 (gh := gh) hi hl hb ha
    have e : andOf ins ands a b = andR ins ands b a := by unfold andOf; rw [if_pos h]
    rw [e]
    refine callL_fn (fn := f_ref_AndOf) (s := aoEnd gh ins l0 (.sl false 2 ((andR ins ands b a).1.map andV)) (andR ins ands b a).2) rfl rfl (D_ref_AndOf_0_ok ?h1) ?r1
    case h1 => simp [D_ref_AndOf_0, h, hk]
    case r1 => simp [finish, results, f_ref_AndOf, resOfs, resOf, resOk, St.cellsAt, graphV, aoEnd, noGs_ands]
  · obtain ⟨l0, hk⟩ := AndOf_k1 (gh := gh) hi hl ha hb
    have e : andOf ins ands a b = andR ins ands a b := by unfold andOf; rw [if_neg h]
    rw [e]
    refine callL_fn (fn := f_ref_AndOf) (s := aoEnd gh ins l0 (.sl false 2 ((andR ins ands a b).1.map andV)) (andR ins ands a b).2) rfl rfl (D_ref_AndOf_0_ok ?h2) ?r2
    case h2 => simp [D_ref_AndOf_0, h, hk]
    case r2 => simp [finish, results, f_ref_AndOf, resOfs, resOf, resOk, St.cellsAt, graphV, aoEnd, noGs_ands]

theorem SameG_loop (hl : Sz ands.length) : ∀ k i, i + k = ands.length →
    runL pg f_ref_SameGraph_l1 ⟨[(2, .ptr false 0 0), (3, .ptr false 1 0), (5, I (i : Int))], [[I ins, .sl false 2 (ands.map andV)], [I ins, .sl false 2 (ands.map andV)]], gh⟩ = some (.normal, ⟨[], [], gh⟩)
  | 0, i, h => by
    have hlt : ¬ i < ands.length := by omega
    refine (lp_exit (s1 := ?s1) (D_ref_SameGraph_b1_ok ?h1)).trans ?r1
    case h1 => simp [D_ref_SameGraph_b1, hlt]; rfl
    case r1 => simp [keep]
  | k + 1, i, h => by
    have hlt : i < ands.length := by omega
    have e2 : IntKind.i64.wrap ((i : Int) + 1) = ((i + 1 : Nat) : Int) := wrap_nat (by simp only [Sz] at hl ⊢; omega)
    have hfl := flat2 ands[i] ands[i].1 ands[i].2
    rw [decide_eq_true rfl] at hfl
    refine lp_next (s1 := ⟨[(2, .ptr false 0 0), (3, .ptr false 1 0), (5, I ((i + 1 : Nat) : Int))], [[I ins, .sl false 2 (ands.map andV)], [I ins, .sl false 2 (ands.map andV)]], gh⟩) (D_ref_SameGraph_b1_ok ?_) (SameG_loop hl k (i + 1) (by omega))
    simp [D_ref_SameGraph_b1, hlt, e2, hfl, andV_def]

theorem SameG_refl (hl : Sz ands.length) : callL pg 7 [graphV ins ands, graphV ins ands] gh = some (B true, gh) := by
  have h := SameG_loop (ins := ins) (gh := gh) hl ands.length 0 (by omega)
  simp only [Int.natCast_zero] at h
  have hk := D_ref_SameGraph_k1_ok (pg := pg) (gh := gh) (e := .ret) (s := ⟨[(4, B true)], [], gh⟩) rfl
  refine callL_fn (fn := f_ref_SameGraph) (s := ?s1) rfl rfl (D_ref_SameGraph_0_ok ?h1) ?r1
  case h1 => simp [D_ref_SameGraph_0, h, hk]; rfl
  case r1 => simp [finish, results, f_ref_SameGraph, resOfs, resOf, resOk]

theorem GA_k2 (hr : RA ands) {n e v : Int} {x : Int × List (Int × Int)} (hv : chkE ins ands = v) (hx : Sz x.2.length) (o : Bool) :
    runL pg f_law_GatesAnds_k2 ⟨[(3, .ptr false 0 0), (7, .ptr false 1 0), (8, I n), (9, I e), (10, I v), (11, I e), (12, .ptr false 2 0), (13, I n)], [[I ins, .sl false 2 (ands.map andV)], [I x.1, .sl false 2 (x.2.map andV)], [I x.1, .sl o 2 (x.2.map andV)]], []⟩ = some (.ret, ⟨[(6, B true)], [], []⟩) := by
  have hC := Check_eq (ins := ins) (gh := []) hr
  rw [hv] at hC
  have hS := SameG_refl (ins := x.1) (ands := x.2) (gh := []) hx
  unfold graphV at hC hS
  refine D_law_GatesAnds_k2_ok ?_
  simp [D_law_GatesAnds_k2, gatesBegun_true, hC, hS]

theorem GatesAnds_eq (hr : RA ands) (a b : Int) : callL pg 0 [graphV ins ands, I a, I b] [] = some (B true, []) := by
  have hA := And_eq (ins := ins) (gh := []) hr a b
  have hG := CheckG_eq (ins := ins) (gh := []) hr
  refine callL_fn (fn := f_law_GatesAnds) (s := ⟨[(6, B true)], [], []⟩) rfl rfl (D_law_GatesAnds_0_ok ?h1) ?r1
  case r1 => simp [finish, results, f_law_GatesAnds, resOfs, resOf, resOk]
  case h1 =>
    by_cases hc : chkE ins ands = 0
    · obtain ⟨hi, hl, hok, hnd⟩ := chkE_zero hc
      have hLa := IsLit_eq (gh := []) hi hl a
      have hLb := IsLit_eq (gh := []) hi hl b
      rw [hc] at hG
      by_cases hab : isLit ins ands a = true ∧ isLit ins ands b = true
      · have hO := AndOf_eq (gh := []) hi hl (isLit_lt hi hl hab.1) (isLit_lt hi hl hab.2)
        have hlen : (andOf ins ands a b).1.length ≤ 1000001 := by
          have : ∀ a b, (andR ins ands a b).1.length ≤ ands.length + 1 := by
            intro a b
            unfold andR
            repeat' split
            all_goals simp
          unfold andOf
          split
          · have := this b a; omega
          · have := this a b; omega
        rw [hab.1] at hLa
        rw [hab.2] at hLb
        by_cases hm : 1000000 < (andOf ins ands a b).1.length
        · have e : andE ins ands a b = ((0, []), 0, 2) := by
            unfold andE
            rw [if_neg (fun h => h hc), if_neg (fun h => h hab), if_pos hm]
          rw [e] at hA
          have hk2 := GA_k2 (n := 0) (e := 2) (x := (0, [])) hr hc (by simp) true
          unfold graphV at hA hG hLa hLb hO
          have hmI : (1000000 : Int) < ((andOf ins ands a b).1.length : Int) := by omega
          have hk1 := D_law_GatesAnds_k1_ok (pg := pg) (gh := []) (x1 := a) (x2 := b) (x8 := 0) (x9 := 2) (x10 := 0) (x11 := 0) (x13 := 0) (xc0_0 := ins) (vc0_1 := .sl false 2 (ands.map andV)) (xc1_0 := 0) (vc1_1 := .sl false 2 []) (xc2_0 := 0) (vc2_1 := .sl true 2 []) (e := .ret) (s := ⟨[(6, B true)], [], []⟩)
            (by
              simp only [List.map_nil] at hk2
              simp [D_law_GatesAnds_k1, hO, hmI, hk2])
          simp [D_law_GatesAnds_0, hA, hG, hLa, hLb, hk1]
        · have e : andE ins ands a b = ((ins, (andOf ins ands a b).1), (andOf ins ands a b).2, 0) := by
            unfold andE
            rw [if_neg (fun h => h hc), if_neg (fun h => h hab), if_neg hm]
          rw [e] at hA
          have hk2 := GA_k2 (n := (andOf ins ands a b).2) (e := 0) (x := (ins, (andOf ins ands a b).1)) hr hc (by simp only [Sz]; omega) false
          unfold graphV at hA hG hLa hLb hO
          have hmI : ¬ (1000000 : Int) < ((andOf ins ands a b).1.length : Int) := by omega
          generalize andOf ins ands a b = r at *
          have hk1 := D_law_GatesAnds_k1_ok (pg := pg) (gh := []) (x1 := a) (x2 := b) (x8 := r.2) (x9 := 0) (x10 := 0) (x11 := 0) (x13 := 0) (xc0_0 := ins) (vc0_1 := .sl false 2 (ands.map andV)) (xc1_0 := ins) (vc1_1 := .sl false 2 (r.1.map andV)) (xc2_0 := 0) (vc2_1 := .sl true 2 []) (e := .ret) (s := ⟨[(6, B true)], [], []⟩)
            (by simp [D_law_GatesAnds_k1, hO, hmI, hk2])
          simp [D_law_GatesAnds_0, hA, hG, hLa, hLb, hk1]
      · have e : andE ins ands a b = ((0, []), 0, 5) := by
          unfold andE
          rw [if_neg (fun h => h hc), if_pos hab]
        rw [e] at hA
        have hk2 := GA_k2 (n := 0) (e := 5) (x := (0, [])) hr hc (by simp) true
        unfold graphV at hA hG hLa hLb
        have hk1 := D_law_GatesAnds_k1_ok (pg := pg) (gh := []) (x1 := a) (x2 := b) (x8 := 0) (x9 := 5) (x10 := 0) (x11 := 5) (x13 := 0) (xc0_0 := ins) (vc0_1 := .sl false 2 (ands.map andV)) (xc1_0 := 0) (vc1_1 := .sl false 2 []) (xc2_0 := 0) (vc2_1 := .sl true 2 []) (e := .ret) (s := ⟨[(6, B true)], [], []⟩)
          (by
            simp only [List.map_nil] at hk2
            simp [D_law_GatesAnds_k1, hk2])
        cases hla : isLit ins ands a with
        | false =>
          rw [hla] at hLa
          simp [D_law_GatesAnds_0, hA, hG, hLa, hk1]
        | true =>
          rw [hla] at hLa
          cases hlb : isLit ins ands b with
          | true => exact absurd ⟨hla, hlb⟩ hab
          | false =>
            rw [hlb] at hLb
            simp [D_law_GatesAnds_0, hA, hG, hLa, hLb, hk1]
    · have e : andE ins ands a b = ((0, []), 0, chkE ins ands) := by unfold andE; rw [if_pos hc]
      rw [e] at hA
      have hk2 := GA_k2 (ins := ins) (v := chkE ins ands) (n := 0) (e := chkE ins ands) (x := (0, [])) hr rfl (by simp) true
      unfold graphV at hA hG
      have hk1 := D_law_GatesAnds_k1_ok (pg := pg) (gh := []) (x1 := a) (x2 := b) (x8 := 0) (x9 := chkE ins ands) (x10 := chkE ins ands) (x11 := chkE ins ands) (x13 := 0) (xc0_0 := ins) (vc0_1 := .sl false 2 (ands.map andV)) (xc1_0 := 0) (vc1_1 := .sl false 2 []) (xc2_0 := 0) (vc2_1 := .sl true 2 []) (e := .ret) (s := ⟨[(6, B true)], [], []⟩)
        (by
          simp only [List.map_nil] at hk2
          simp [D_law_GatesAnds_k1, hc, hk2])
      simp [D_law_GatesAnds_0, hA, hG, hc, hk1]

end

abbrev graphC : List CS := [.int, .slice true 16 [.int, .int]]
abbrev insGatesAnds : List (Bool × List CS) := [(true, graphC), (false, [.int]), (false, [.int])]

theorem csOk_slice {g : Bool} {bytes : Nat} {l : List CS} {p : PV} (h : csOk (.slice g bytes l) p) : ∃ xs, p = .sl false l.length xs ∧ xs.length * bytes ≤ reachBytes ∧ ∀ e ∈ xs, (g = true ∧ ∃ ps, e = .agg ps ∧ csAll l ps) ∨ (g = false ∧ csAll l [e]) := by
  unfold csOk at h; exact h

theorem and_list : ∀ {xs : List PV}, (∀ e ∈ xs, (true = true ∧ ∃ ps, e = .agg ps ∧ csAll [.int, .int] ps) ∨ (true = false ∧ csAll [.int, .int] [e])) → ∃ ands, RA ands ∧ xs = ands.map andV
  | [], _ => ⟨[], fun x h => (by cases h), rfl⟩
  | e :: xs, h => by
    obtain ⟨ands, hr, rfl⟩ := and_list (xs := xs) fun e he => h e (List.mem_cons_of_mem _ he)
    rcases h e (by simp) with ⟨-, ps, rfl, hp⟩ | ⟨h, -⟩
    · obtain ⟨_, _, rfl, g0, hp⟩ := csAll_cons hp
      obtain ⟨_, _, rfl, g1, hp⟩ := csAll_cons hp
      obtain rfl := csAll_nil hp
      obtain ⟨a, rfl, ha⟩ := csOk_int g0
      obtain ⟨b, rfl, hb⟩ := csOk_int g1
      refine ⟨(a, b) :: ands, fun x hx => ?_, rfl⟩
      rcases List.mem_cons.1 hx with rfl | hx
      · exact ⟨ha, hb⟩
      · exact hr x hx
    · cases h

theorem graph_ty {p : PV} (h : argTy (true, graphC) p) : ∃ ins ands, p = graphV ins ands ∧ RA ands ∧ ands.length * 16 ≤ reachBytes := by
  obtain ⟨ps, rfl, hp⟩ := argTy_agg h
  obtain ⟨_, _, rfl, g0, hp⟩ := csAll_cons hp
  obtain ⟨_, _, rfl, g1, hp⟩ := csAll_cons hp
  obtain rfl := csAll_nil hp
  obtain ⟨ins, rfl, -⟩ := csOk_int g0
  obtain ⟨xs, rfl, hb, hx⟩ := csOk_slice g1
  obtain ⟨ands, hr, rfl⟩ := and_list hx
  exact ⟨ins, ands, rfl, hr, by simpa using hb⟩

theorem gatesAnds_true (qs : List PV) (h : argsTy insGatesAnds qs) : callL pg 0 qs [] = some (B true, []) := by
  obtain ⟨_, _, rfl, h0, h⟩ := argsTy_cons h
  obtain ⟨_, _, rfl, h1, h⟩ := argsTy_cons h
  obtain ⟨_, _, rfl, h2, h⟩ := argsTy_cons h
  obtain rfl := argsTy_nil h
  obtain ⟨ins, ands, rfl, hr, -⟩ := graph_ty h0
  obtain ⟨a, rfl, -⟩ := argTy_int h1
  obtain ⟨b, rfl, -⟩ := argTy_int h2
  exact GatesAnds_eq hr a b

end Go.Lw
end

/-! The law GatesEvals, of the machine: it answers true. -/
section
namespace Go.Lw
open Go

section
variable {ins : Int} {ands : List (Int × Int)} {gh : List GObj}

theorem LitOf_eq {v : List Bool} {n : Int} (h0 : 0 ≤ n) (hm : n ≤ 9223372036854775807) (h : (n / 2).toNat < v.length) : callL pg 12 [LB v, I n] gh = some (B (litV v n), gh) := by
  have e1 : IntKind.i64.wrap (Int.tdiv n 2) = n / 2 := by rw [tdiv2 h0, wrap_id (by omega) (by omega)]
  have e2 : Int.tmod n 2 = n % 2 := Int.tmod_eq_emod_of_nonneg h0
  have h2 : 0 ≤ n / 2 := by omega
  by_cases h3 : n % 2 = 1
  · refine callL_fn (fn := f_ref_LitOf) (s := ?s1) rfl rfl (D_ref_LitOf_0_ok ?h1) ?r1
    case h1 => simp [D_ref_LitOf_0, e1, e2, h2, h3, lit_idx h, -List.getElem?_map]; rfl
    case r1 => simp [finish, results, f_ref_LitOf, resOfs, resOf, resOk, litV, h3]
  · refine callL_fn (fn := f_ref_LitOf) (s := ?s2) rfl rfl (D_ref_LitOf_0_ok ?h2) ?r2
    case h2 => simp [D_ref_LitOf_0, e1, e2, h2, h3, lit_idx h, -List.getElem?_map]; rfl
    case r2 => simp [finish, results, f_ref_LitOf, resOfs, resOf, resOk, litV, h3]

theorem AreLits_loop (hi : 0 ≤ ins ∧ ins ≤ 1000) (hl : ands.length ≤ 1000000) {lits : List Int} (hs : Sz lits.length) : ∀ k i, i + k = lits.length →
    runL pg f_ref_AreLits_l1 ⟨[(1, LI lits), (2, .ptr false 0 0), (5, I (i : Int))], [[I ins, .sl false 2 (ands.map andV)]], gh⟩ =
      if (lits.drop i).all (isLit ins ands) = true then some (.normal, ⟨[], [], gh⟩) else some (.ret, ⟨[(4, B false)], [], gh⟩)
  | 0, i, h => by
    rw [List.drop_eq_nil_of_le (by omega), List.all_nil, if_pos rfl]
    have hlt : ¬ i < lits.length := by omega
    refine (lp_exit (s1 := ?s1) (D_ref_AreLits_b1_ok ?h1)).trans ?r1
    case h1 => simp [D_ref_AreLits_b1, hlt]; rfl
    case r1 => simp [keep]
  | k + 1, i, h => by
    have hlt : i < lits.length := by omega
    have e3 : IntKind.i64.wrap ((i : Int) + 1) = ((i + 1 : Nat) : Int) := wrap_nat (by simp only [Sz] at hs ⊢; omega)
    have hL := IsLit_eq (gh := gh) hi hl lits[i]
    unfold graphV at hL
    have hg : (lits.map I)[i]? = some (I lits[i]) := by simp [List.getElem?_eq_getElem hlt]
    rw [List.drop_eq_getElem_cons hlt, List.all_cons]
    cases hx : isLit ins ands lits[i] with
    | true =>
      rw [hx] at hL
      refine lp_next (s1 := ⟨[(1, LI lits), (2, .ptr false 0 0), (5, I ((i + 1 : Nat) : Int))], [[I ins, .sl false 2 (ands.map andV)]], gh⟩) (D_ref_AreLits_b1_ok ?h2) ?r2
      case h2 => simp [D_ref_AreLits_b1, hlt, hL, e3]
      case r2 =>
        rw [Bool.true_and]
        exact AreLits_loop hi hl hs k (i + 1) (by omega)
    | false =>
      rw [hx] at hL
      rw [Bool.false_and, if_neg (by simp)]
      refine lp_ret (D_ref_AreLits_b1_ok ?h3)
      case h3 => simp [D_ref_AreLits_b1, hlt, hL]

theorem AreLits_eq (hi : 0 ≤ ins ∧ ins ≤ 1000) (hl : ands.length ≤ 1000000) {lits : List Int} (hs : Sz lits.length) : callL pg 10 [graphV ins ands, LI lits] gh = some (B (lits.all (isLit ins ands)), gh) := by
  have h := AreLits_loop (gh := gh) hi hl hs lits.length 0 (by omega)
  rw [List.drop_zero] at h
  simp only [Int.natCast_zero] at h
  cases hx : lits.all (isLit ins ands) with
  | true =>
    rw [if_pos hx] at h
    have hk := D_ref_AreLits_k1_ok (pg := pg) (gh := gh) (e := .ret) (s := ⟨[(4, B true)], [], gh⟩) rfl
    refine callL_fn (fn := f_ref_AreLits) (s := ?s1) rfl rfl (D_ref_AreLits_0_ok ?h1) ?r1
    case h1 => simp [D_ref_AreLits_0, h, hk]; rfl
    case r1 => simp [finish, results, f_ref_AreLits, resOfs, resOf, resOk]
  | false =>
    rw [if_neg (by rw [hx]; simp)] at h
    refine callL_fn (fn := f_ref_AreLits) (s := ?s2) rfl rfl (D_ref_AreLits_0_ok ?h2) ?r2
    case h2 => simp [D_ref_AreLits_0, h]; rfl
    case r2 => simp [finish, results, f_ref_AreLits, resOfs, resOf, resOk]

def noSt (gh : List GObj) (ins : Int) (ands : List (Int × Int)) (v : List Bool) (i : Nat) : St :=
  ⟨[(2, .ptr false 0 0), (5, .sl true 1 (v.map B)), (6, I (i : Int))], [[I ins, .sl false 2 (ands.map andV)]], gh⟩

theorem NodesOf_b1 {v : List Bool} {i : Nat} (hlt : i < ands.length) (hx : litsIn ands[i] v.length) (hl : ands.length ≤ 1000000) (hv : v.length ≤ 3000000) :
    D_ref_NodesOf_b1 pg (.sl true 1 (v.map B)) i ins (.sl false 2 (ands.map andV)) gh = some (.normal, noSt gh ins ands (v ++ [litV v ands[i].1 && litV v ands[i].2]) (i + 1)) := by
  have e2 : IntKind.i64.wrap ((i : Int) + 1) = ((i + 1 : Nat) : Int) := by rw [wrap_id (by omega) (by omega)]; omega
  generalize hy : ands[i] = x at *
  obtain ⟨a, b⟩ := x
  obtain ⟨⟨a0, a1, a2⟩, b0, b1, b2⟩ := hx
  simp only at a0 a1 a2 b0 b1 b2
  have ha := LitOf_eq (gh := gh) a0 a1 a2
  have hb := LitOf_eq (gh := gh) b0 b1 b2
  have hmx : v.length + 1 ≤ maxBytes := by
    have : maxBytes = 140737488355328 := rfl
    omega
  cases hla : litV v a with
  | true =>
    rw [hla] at ha
    simp [D_ref_NodesOf_b1, hlt, hy, andV_def, noSt, e2, ha, hb, hmx, hla]
  | false =>
    rw [hla] at ha
    simp [D_ref_NodesOf_b1, hlt, hy, andV_def, noSt, e2, ha, hmx, hla]

theorem NodesOf_loop (hl : ands.length ≤ 1000000) : ∀ k i v, i + k = ands.length → v.length ≤ 1001001 + i → (∀ j (h : j < ands.length), i ≤ j → litsIn ands[j] (v.length + (j - i))) →
    runL pg f_ref_NodesOf_l1 (noSt gh ins ands v i) = some (.normal, ⟨[(5, .sl true 1 ((allFrom v (ands.drop i)).map B))], [], gh⟩)
  | 0, i, v, h, _, _ => by
    rw [List.drop_eq_nil_of_le (by omega)]
    have hlt : ¬ i < ands.length := by omega
    refine (lp_exit (s1 := ?s1) (D_ref_NodesOf_b1_ok ?h1)).trans ?r1
    case h1 => simp [D_ref_NodesOf_b1, hlt]; rfl
    case r1 => simp [keep, allFrom]
  | k + 1, i, v, h, hv, hin => by
    have hlt : i < ands.length := by omega
    have hx := hin i hlt (Nat.le_refl _)
    rw [Nat.sub_self, Nat.add_zero] at hx
    refine lp_next (D_ref_NodesOf_b1_ok (NodesOf_b1 hlt hx hl (by omega))) ?_
    rw [List.drop_eq_getElem_cons hlt, allFrom]
    refine NodesOf_loop hl k (i + 1) _ (by omega) (by simp; omega) (fun j hj hij => ?_)
    have := hin j hj (by omega)
    rw [show (v ++ [litV v ands[i].1 && litV v ands[i].2]).length + (j - (i + 1)) = v.length + (j - i) by simp; omega]
    exact this

theorem NodesOf_eq {v : List Bool} (hi : 0 ≤ ins ∧ ins ≤ 1000) (hl : ands.length ≤ 1000000) (hok : okA ins 0 ands = true) (hv : (v.length : Int) = ins) :
    callL pg 11 [graphV ins ands, LB v] gh = some (LB (allFrom (false :: v) ands), gh) := by
  have hlp := NodesOf_loop (ins := ins) (gh := gh) hl ands.length 0 (false :: v) (by omega) (by simp; omega) (fun j hj _ => by
    have h := okA_get hok hj
    refine ok_litsIn hi (by simpa using h) (by omega) ?_
    simp; omega)
  rw [List.drop_zero] at hlp
  unfold noSt at hlp
  simp only [Int.natCast_zero, List.map_cons] at hlp
  have hk := D_ref_NodesOf_k1_ok (pg := pg) (gh := gh) (v5 := .sl true 1 ((allFrom (false :: v) ands).map B)) (e := .ret) (s := ⟨[(4, LB (allFrom (false :: v) ands))], [], gh⟩) (by simp [D_ref_NodesOf_k1])
  have hmx : 1 + v.length ≤ maxBytes := by
    have : maxBytes = 140737488355328 := rfl
    omega
  have hmx2 : v.length + 1 ≤ maxBytes := by omega
  refine callL_fn (fn := f_ref_NodesOf) (s := ⟨[(4, LB (allFrom (false :: v) ands))], [], gh⟩) rfl rfl (D_ref_NodesOf_0_ok ?h1) ?r1
  case h1 => simp [D_ref_NodesOf_0, graphV, hmx, hmx2, hlp, hk]
  case r1 => simp [finish, results, f_ref_NodesOf, resOfs, resOf, resOk, noGs_bools]

theorem sameBools_loop {v : List Bool} (hs : Sz v.length) : ∀ k i, i + k = v.length →
    runL pg f_law_sameBools_l1 ⟨[(0, LB v), (1, LB v), (5, I (i : Int))], [], gh⟩ = some (.normal, ⟨[], [], gh⟩)
  | 0, i, h => by
    have hlt : ¬ i < v.length := by omega
    refine (lp_exit (s1 := ?s1) (D_law_sameBools_b1_ok ?h1)).trans ?r1
    case h1 => simp [D_law_sameBools_b1, hlt]; rfl
    case r1 => simp [keep]
  | k + 1, i, h => by
    have hlt : i < v.length := by omega
    have e3 : IntKind.i64.wrap ((i : Int) + 1) = ((i + 1 : Nat) : Int) := wrap_nat (by simp only [Sz] at hs ⊢; omega)
    refine lp_next (s1 := ⟨[(0, LB v), (1, LB v), (5, I ((i + 1 : Nat) : Int))], [], gh⟩) (D_law_sameBools_b1_ok ?h2) (sameBools_loop hs k (i + 1) (by omega))
    case h2 => simp [D_law_sameBools_b1, hlt, e3]

theorem sameBools_refl {v : List Bool} (hs : Sz v.length) : callL pg 13 [LB v, LB v] gh = some (B true, gh) := by
  have h := sameBools_loop (gh := gh) hs v.length 0 (by omega)
  simp only [Int.natCast_zero] at h
  have hk := D_law_sameBools_k1_ok (pg := pg) (gh := gh) (e := .ret) (s := ⟨[(4, B true)], [], gh⟩) rfl
  refine callL_fn (fn := f_law_sameBools) (s := ?s1) rfl rfl (D_law_sameBools_0_ok ?h1) ?r1
  case h1 => simp [D_law_sameBools_0, h, hk]; rfl
  case r1 => simp [finish, results, f_law_sameBools, resOfs, resOf, resOk]

def geSt (lits : List Int) (v7 : PV) (x8 x9 : Int) (out al : List Bool) (i : Nat) : St :=
  ⟨[(2, LI lits), (7, v7), (8, I x8), (9, I x9), (10, .sl true 1 (out.map B)), (11, LB al), (12, I (i : Int))], [], []⟩

theorem GE_loop {al w : List Bool} {x8 x9 : Int} {lits : List Int} (hs : Sz lits.length) (hin : ∀ n ∈ lits, 0 ≤ n ∧ n ≤ 9223372036854775807 ∧ (n / 2).toNat < al.length) : ∀ k i, i + k = lits.length →
    runL pg f_law_GatesEvals_l1 (geSt lits (LB w) x8 x9 ((lits.take i).map (litV al)) al i) = some (.normal, ⟨[(7, LB w), (8, I x8), (9, I x9), (10, .sl true 1 ((lits.map (litV al)).map B))], [], []⟩)
  | 0, i, h => by
    rw [List.take_of_length_le (by omega)]
    have hlt : ¬ i < lits.length := by omega
    refine (lp_exit (s1 := ?s1) (D_law_GatesEvals_b1_ok ?h1)).trans ?r1
    case h1 => simp [D_law_GatesEvals_b1, hlt]; rfl
    case r1 => simp [keep]
  | k + 1, i, h => by
    have hlt : i < lits.length := by omega
    obtain ⟨h0, h1, h2⟩ := hin lits[i] (List.getElem_mem hlt)
    have hL := LitOf_eq (gh := []) h0 h1 h2
    have e3 : IntKind.i64.wrap ((i : Int) + 1) = ((i + 1 : Nat) : Int) := wrap_nat (by simp only [Sz] at hs ⊢; omega)
    have hmx : i + 1 ≤ maxBytes := by
      have : maxBytes = 140737488355328 := rfl
      simp only [Sz] at hs; omega
    refine lp_next (s1 := geSt lits (LB w) x8 x9 ((lits.take (i + 1)).map (litV al)) al (i + 1)) (D_law_GatesEvals_b1_ok ?h4) (GE_loop hs hin k (i + 1) (by omega))
    case h4 =>
      have htk : (lits.take (i + 1)).map (litV al) = (lits.take i).map (litV al) ++ [litV al lits[i]] := by
        rw [List.take_add_one, List.getElem?_eq_getElem hlt, List.map_append]; rfl
      have hln : ((lits.take i).map (litV al)).length = i := by simp; omega
      rw [htk]
      generalize (lits.take i).map (litV al) = out at hln
      simp [D_law_GatesEvals_b1, hlt, hL, e3, hln, hmx, geSt]

theorem GE_k3 {v : List Bool} {e : Int} (hs : Sz v.length) (o : Bool) : runL pg f_law_GatesEvals_k3 ⟨[(7, LB v), (8, I e), (9, I e), (10, .sl o 1 (v.map B))], [], []⟩ = some (.ret, ⟨[(6, B true)], [], []⟩) := by
  refine D_law_GatesEvals_k3_ok ?_
  have := sameBools_refl (gh := []) hs
  simp [D_law_GatesEvals_k3, gatesBegun_true, this]

theorem GE_k2_err {v : List Bool} {lits : List Int} {e : Int} (he : e ≠ 0) : runL pg f_law_GatesEvals_k2 ⟨[(1, LB v), (2, LI lits), (3, .ptr false 0 0), (7, .sl false 1 []), (8, I e), (9, I e)], [[I ins, .sl false 2 (ands.map andV)]], []⟩ = some (.ret, ⟨[(6, B true)], [], []⟩) := by
  have hk := GE_k3 (v := []) (e := e) (by simp) true
  have hk' : runL pg f_law_GatesEvals_k3 ⟨[(7, .sl false 1 []), (8, I e), (9, I e), (10, .sl true 1 [])], [], []⟩ = some (.ret, ⟨[(6, B true)], [], []⟩) := hk
  refine D_law_GatesEvals_k2_ok ?_
  simp [D_law_GatesEvals_k2, he, hk']

theorem GatesEvals_eq {v : List Bool} {lits : List Int} (hr : RA ands) (hs : Sz lits.length) (hsv : Sz v.length) : callL pg 8 [graphV ins ands, LB v, LI lits] [] = some (B true, []) := by
  have hE := Eval_eq (ins := ins) (v := v) (lits := lits) (gh := []) hr hs
  have hG := CheckG_eq (ins := ins) (gh := []) hr
  unfold graphV at hE hG
  refine callL_fn (fn := f_law_GatesEvals) (s := ⟨[(6, B true)], [], []⟩) rfl rfl (D_law_GatesEvals_0_ok ?h1) ?r1
  case r1 => simp [finish, results, f_law_GatesEvals, resOfs, resOf, resOk]
  case h1 =>
    by_cases hc : chkE ins ands = 0
    · obtain ⟨hi, hl, hok, hnd⟩ := chkE_zero hc
      have hAL := AreLits_eq (gh := []) hi hl hs
      unfold graphV at hAL
      rw [hc] at hG
      cases hab : lits.all (isLit ins ands) with
      | false =>
        have e : evE ins ands v lits = ([], 5) := by
          unfold evE
          rw [if_neg (fun h => h hc), if_pos (by rw [hab]; simp)]
        rw [e] at hE
        rw [hab] at hAL
        have hk2 := GE_k2_err (ins := ins) (ands := ands) (v := v) (lits := lits) (e := 5) (by decide)
        have hk1 := D_law_GatesEvals_k1_ok (pg := pg) (gh := []) (v1 := LB v) (v2 := LI lits) (v7 := .sl false 1 []) (x8 := 5) (x9 := 5) (xc0_0 := ins) (vc0_1 := .sl false 2 (ands.map andV)) (e := .ret) (s := ⟨[(6, B true)], [], []⟩) (by simp [D_law_GatesEvals_k1, hk2])
        simp [D_law_GatesEvals_0, graphV, hE, hG, hAL, hk1]
      | true =>
        rw [hab] at hAL
        by_cases hv : (v.length : Int) = ins
        · have e : evE ins ands v lits = (lits.map (litV (allFrom (false :: v) ands)), 0) := by
            unfold evE
            rw [if_neg (fun h => h hc), if_neg (by rw [hab]; simp), if_neg (fun h => h hv)]
          rw [e] at hE
          have hN := NodesOf_eq (gh := []) hi hl hok hv
          unfold graphV at hN
          have hlen := allFrom_len (false :: v) ands
          have hin : ∀ n ∈ lits, 0 ≤ n ∧ n ≤ 9223372036854775807 ∧ (n / 2).toNat < (allFrom (false :: v) ands).length := fun n hn => by
            have := List.all_eq_true.1 hab n hn
            unfold isLit nodesOf at this
            rw [decide_eq_true_eq] at this
            simp at hlen
            omega
          generalize allFrom (false :: v) ands = al at *
          have hlp := GE_loop (w := lits.map (litV al)) (x8 := 0) (x9 := 0) hs hin lits.length 0 (by omega)
          unfold geSt at hlp
          simp only [List.take_zero, List.map_nil, Int.natCast_zero] at hlp
          have hk3 := GE_k3 (v := lits.map (litV al)) (e := 0) (by simpa using hs) true
          have hk2 := D_law_GatesEvals_k2_ok (pg := pg) (gh := []) (v1 := LB v) (v2 := LI lits) (v7 := LB (lits.map (litV al))) (x8 := 0) (x9 := 0) (xc0_0 := ins) (vc0_1 := .sl false 2 (ands.map andV)) (e := .ret) (s := ⟨[(6, B true)], [], []⟩) (by simp [D_law_GatesEvals_k2, hN, hlp, hk3, -List.map_map])
          have hk1 := D_law_GatesEvals_k1_ok (pg := pg) (gh := []) (v1 := LB v) (v2 := LI lits) (v7 := LB (lits.map (litV al))) (x8 := 0) (x9 := 0) (xc0_0 := ins) (vc0_1 := .sl false 2 (ands.map andV)) (e := .ret) (s := ⟨[(6, B true)], [], []⟩) (by simp [D_law_GatesEvals_k1, hv, hk2, -List.map_map])
          simp [D_law_GatesEvals_0, graphV, hE, hG, hAL, hk1, -List.map_map]
        · have e : evE ins ands v lits = ([], 1) := by
            unfold evE
            rw [if_neg (fun h => h hc), if_neg (by rw [hab]; simp), if_pos hv]
          rw [e] at hE
          have hk2 := GE_k2_err (ins := ins) (ands := ands) (v := v) (lits := lits) (e := 1) (by decide)
          have hk1 := D_law_GatesEvals_k1_ok (pg := pg) (gh := []) (v1 := LB v) (v2 := LI lits) (v7 := .sl false 1 []) (x8 := 1) (x9 := 0) (xc0_0 := ins) (vc0_1 := .sl false 2 (ands.map andV)) (e := .ret) (s := ⟨[(6, B true)], [], []⟩) (by simp [D_law_GatesEvals_k1, hv, hk2])
          simp [D_law_GatesEvals_0, graphV, hE, hG, hAL, hk1]
    · have e : evE ins ands v lits = ([], chkE ins ands) := by unfold evE; rw [if_pos hc]
      rw [e] at hE
      have hk2 := GE_k2_err (ins := ins) (ands := ands) (v := v) (lits := lits) (e := chkE ins ands) hc
      have hk1 := D_law_GatesEvals_k1_ok (pg := pg) (gh := []) (v1 := LB v) (v2 := LI lits) (v7 := .sl false 1 []) (x8 := chkE ins ands) (x9 := chkE ins ands) (xc0_0 := ins) (vc0_1 := .sl false 2 (ands.map andV)) (e := .ret) (s := ⟨[(6, B true)], [], []⟩) (by simp [D_law_GatesEvals_k1, hc, hk2])
      simp [D_law_GatesEvals_0, graphV, hE, hG, hc, hk1]

end

abbrev insGatesEvals : List (Bool × List CS) := [(true, graphC), (false, [.slice false 1 [.bool]]), (false, [.slice false 8 [.int]])]

theorem bool_list : ∀ {xs : List PV}, (∀ e ∈ xs, (false = true ∧ ∃ ps, e = .agg ps ∧ csAll [.bool] ps) ∨ (false = false ∧ csAll [.bool] [e])) → ∃ v : List Bool, xs = v.map B
  | [], _ => ⟨[], rfl⟩
  | e :: xs, h => by
    obtain ⟨v, rfl⟩ := bool_list (xs := xs) fun e he => h e (List.mem_cons_of_mem _ he)
    rcases h e (by simp) with ⟨h, -⟩ | ⟨-, hp⟩
    · cases h
    · obtain ⟨_, _, e1, g0, hp⟩ := csAll_cons hp
      cases csAll_nil hp
      simp only [List.cons.injEq, and_true] at e1
      subst e1
      unfold csOk at g0
      obtain ⟨b, rfl⟩ := g0
      exact ⟨b :: v, rfl⟩

/-- All numbers of a list are Go's. -/
def RI (l : List Int) : Prop := ∀ x ∈ l, -9223372036854775808 ≤ x ∧ x ≤ 9223372036854775807

theorem int_list : ∀ {xs : List PV}, (∀ e ∈ xs, (false = true ∧ ∃ ps, e = .agg ps ∧ csAll [.int] ps) ∨ (false = false ∧ csAll [.int] [e])) → ∃ v : List Int, RI v ∧ xs = v.map I
  | [], _ => ⟨[], fun x h => (by cases h), rfl⟩
  | e :: xs, h => by
    obtain ⟨v, hr, rfl⟩ := int_list (xs := xs) fun e he => h e (List.mem_cons_of_mem _ he)
    rcases h e (by simp) with ⟨h, -⟩ | ⟨-, hp⟩
    · cases h
    · obtain ⟨_, _, e1, g0, hp⟩ := csAll_cons hp
      cases csAll_nil hp
      simp only [List.cons.injEq, and_true] at e1
      subst e1
      obtain ⟨b, rfl, hb⟩ := csOk_int g0
      refine ⟨b :: v, fun x hx => ?_, rfl⟩
      rcases List.mem_cons.1 hx with rfl | hx
      · exact hb
      · exact hr x hx

theorem argTy_one {c : CS} {p : PV} (h : argTy (false, [c]) p) : csOk c p := by
  obtain ⟨q, ps, e, h1, h2⟩ := csAll_cons h
  cases csAll_nil h2
  simp only [List.cons.injEq, and_true] at e
  subst e; exact h1

theorem bools_ty {p : PV} (h : argTy (false, [.slice false 1 [.bool]]) p) : ∃ v : List Bool, p = LB v ∧ Sz v.length := by
  obtain ⟨xs, rfl, hb, hx⟩ := csOk_slice (argTy_one h)
  obtain ⟨v, rfl⟩ := bool_list hx
  refine ⟨v, rfl, ?_⟩
  have : reachBytes = 140737488351232 := rfl
  simp only [List.length_map] at hb
  simp only [Sz]; omega

theorem ints_ty {p : PV} (h : argTy (false, [.slice false 8 [.int]]) p) : ∃ v : List Int, p = LI v ∧ RI v ∧ v.length * 8 ≤ reachBytes := by
  obtain ⟨xs, rfl, hb, hx⟩ := csOk_slice (argTy_one h)
  obtain ⟨v, hr, rfl⟩ := int_list hx
  refine ⟨v, rfl, hr, ?_⟩
  simpa using hb

theorem gatesEvals_true (qs : List PV) (h : argsTy insGatesEvals qs) : callL pg 8 qs [] = some (B true, []) := by
  obtain ⟨_, _, rfl, h0, h⟩ := argsTy_cons h
  obtain ⟨_, _, rfl, h1, h⟩ := argsTy_cons h
  obtain ⟨_, _, rfl, h2, h⟩ := argsTy_cons h
  obtain rfl := argsTy_nil h
  obtain ⟨ins, ands, rfl, hr, -⟩ := graph_ty h0
  obtain ⟨v, rfl, hv⟩ := bools_ty h1
  obtain ⟨lits, rfl, -, hs⟩ := ints_ty h2
  have : reachBytes = 140737488351232 := rfl
  exact GatesEvals_eq hr (by simp only [Sz]; omega) hv

end Go.Lw
end

/-! CnfTells: what the code comes to is true, whatever is handed in. -/
section
namespace Go.Lw
open Go

/-- The literals of all nodes but the first. -/
def nodesL (k : Nat) : List Int := (List.range k).map fun j : Nat => 2 * ((j : Int) + 1)

theorem nodesL_succ (k : Nat) : nodesL (k + 1) = nodesL k ++ [2 * ((k : Int) + 1)] := by
  unfold nodesL
  rw [List.range_succ, List.map_append]; rfl

theorem nodesL_len (k : Nat) : (nodesL k).length = k := by simp [nodesL]

theorem nodes_tell {v : List Bool} {k : Nat} (hl : v.length = k) : (nodesL k).map (litV (false :: v)) = v := by
  apply List.ext_getElem
  · simp [nodesL_len, hl]
  · intro i h1 h2
    simp only [nodesL, List.map_map, List.getElem_map, List.getElem_range, Function.comp_apply]
    unfold litV
    have e1 : (2 * ((i : Int) + 1) / 2).toNat = i + 1 := by omega
    have e2 : decide (2 * ((i : Int) + 1) % 2 = 1) = false := decide_eq_false (by omega)
    rw [e1, e2]
    simp [List.getElem?_eq_getElem h2]

section
variable {ins : Int} {ands : List (Int × Int)} {roots : List Int}

/-- What there is where Of has no error. -/
structure TGood (ins : Int) (ands : List (Int × Int)) (roots : List Int) (vars : Int) (C : List (List Int)) : Prop where
  ra : RA ands
  chk : chkE ins ands = 0
  lits : roots.all (isLit ins ands) = true
  rl : roots.length ≤ 1100000
  vs : vars = ins + ands.length
  cl : clsE vars C = 0
  cs : C = andsC ins 0 0 ands ++ rootsC 0 roots

theorem ok_two (h : chkE ins ands = 0) (hr : RA ands) : ∀ x ∈ ands, (2 ≤ x.1 ∧ x.1 ≤ 9223372036854775807) ∧ 2 ≤ x.2 ∧ x.2 ≤ 9223372036854775807 := by
  intro x hx
  obtain ⟨hi, hl, hok, hnd⟩ := chkE_zero h
  obtain ⟨j, hj, rfl⟩ := List.getElem_of_mem hx
  have h1 := okA_get hok hj
  have h2 := hr _ hx
  unfold badA at h1
  omega

theorem roots_in (hi : 0 ≤ ins ∧ ins ≤ 1000) (hl : ands.length ≤ 1000000) (h : roots.all (isLit ins ands) = true) : ∀ r ∈ roots, 0 ≤ r ∧ r ≤ 9223372036854775807 := by
  intro r hr
  have := List.all_eq_true.1 h r hr
  unfold isLit nodesOf at this
  rw [decide_eq_true_eq] at this
  omega

/-- All nodes, and the clauses. -/
theorem tells_iff {vars : Int} {C : List (List Int)} (G : TGood ins ands roots vars C) {w v : List Bool} (hv : (v.length : Int) = vars) (hw : w = v.take ins.toNat) :
    holdB v C = (decide (allFrom (false :: w) ands = false :: v) && roots.all (litV (false :: v))) := by
  obtain ⟨hi, hl, hok, hnd⟩ := chkE_zero G.chk
  have h2 := ok_two G.chk G.ra
  have hvs := G.vs
  have hwl : w.length = ins.toNat := by rw [hw, List.length_take]; omega
  have h3 := allFrom_iff ands (false :: w) (false :: v) (by simp; omega) (by rw [List.length_cons, List.take_succ_cons, hwl, ← hw]) (fun j hj => by
    have h := okA_get hok hj
    refine ok_litsIn hi (by simpa using h) (by omega) ?_
    simp; omega)
  have h4 := andsC_hold (v := v) hi ands 0 (by omega) h2
  have h5 := rootsC_hold (v := v) roots (roots_in hi hl G.lits)
  rw [G.cs, holdB_append, h5]
  congr 1
  rw [Bool.eq_iff_iff, decide_eq_true_eq, h3, h4]
  have e : (false :: w).length = 1 + ins.toNat + 0 := by simp [hwl]; omega
  rw [e]

def tl1 (ins : Int) (ands : List (Int × Int)) (roots : List Int) (w vals : List Bool) (vars : Int) (L : List PV) (i : Nat) : St :=
  ⟨[(1, LI roots), (2, LB w), (3, LB vals), (4, .ptr false 0 0), (9, .ptr false 1 0), (11, .sl true 1 ((nodesL i).map I)), (12, I ((i : Int) + 1))], [[I ins, .sl false 2 (ands.map andV)], [I vars, .sl false 1 L]], []⟩

theorem CT_loop1 {w vals : List Bool} {k : Nat} {L : List PV} (hk : k ≤ 300000) : ∀ m i, i + m = k →
    runL pg f_law_CnfTells_l1 (tl1 ins ands roots w vals k L i) = some (.normal, ⟨[(1, LI roots), (2, LB w), (3, LB vals), (4, .ptr false 0 0), (9, .ptr false 1 0), (11, .sl true 1 ((nodesL k).map I))], [[I ins, .sl false 2 (ands.map andV)], [I k, .sl false 1 L]], []⟩)
  | 0, i, h => by
    have hlt : ¬ (i : Int) + 1 ≤ (k : Int) := by omega
    obtain rfl : i = k := by omega
    refine (lp_exit (s1 := ?s1) (D_law_CnfTells_b1_ok ?h1)).trans ?r1
    case h1 => simp [D_law_CnfTells_b1, hlt]; rfl
    case r1 => simp [keep, stays]
  | m + 1, i, h => by
    have hlt : (i : Int) + 1 ≤ (k : Int) := by omega
    have e1 : IntKind.i64.wrap (2 * ((i : Int) + 1)) = 2 * ((i : Int) + 1) := wrap_id (by omega) (by omega)
    have e2 : IntKind.i64.wrap ((i : Int) + 1 + 1) = ((i + 1 : Nat) : Int) + 1 := by rw [wrap_id (by omega) (by omega)]; omega
    have hmx : (i + 1) * 8 ≤ maxBytes := by
      have : maxBytes = 140737488355328 := rfl
      omega
    refine lp_next (s1 := tl1 ins ands roots w vals k L (i + 1)) (D_law_CnfTells_b1_ok ?h2) (CT_loop1 hk m (i + 1) (by omega))
    case h2 =>
      unfold tl1
      rw [nodesL_succ, List.map_append]
      have hln : ((nodesL i).map I).length = i := by simp [nodesL_len]
      generalize (nodesL i).map I = N at *
      simp [D_law_CnfTells_b1, hlt, e1, e2, hln, hmx]

def tl2 (ins : Int) (ands : List (Int × Int)) (vals vv r : List Bool) (vars : Int) (L N : List PV) (b : Bool) (i : Nat) : St :=
  ⟨[(3, LB vals), (4, .ptr false 0 0), (9, .ptr false 1 0), (11, .sl true 1 N), (13, LB vv), (14, LB r), (16, B b), (17, I (i : Int))], [[I ins, .sl false 2 (ands.map andV)], [I vars, .sl false 1 L]], []⟩

theorem CT_loop2 {vals vv r : List Bool} {vars : Int} {L N : List PV} (hr : r.length ≤ 1100000) : ∀ m i b, i + m = r.length →
    runL pg f_law_CnfTells_l2 (tl2 ins ands vals vv r vars L N b i) = some (.normal, ⟨[(3, LB vals), (4, .ptr false 0 0), (9, .ptr false 1 0), (11, .sl true 1 N), (13, LB vv), (16, B (b && (r.drop i).all id))], [[I ins, .sl false 2 (ands.map andV)], [I vars, .sl false 1 L]], []⟩)
  | 0, i, b, h => by
    rw [List.drop_eq_nil_of_le (by omega)]
    have hlt : ¬ i < r.length := by omega
    refine (lp_exit (s1 := ?s1) (D_law_CnfTells_b2_ok ?h1)).trans ?r1
    case h1 => simp [D_law_CnfTells_b2, hlt]; rfl
    case r1 => simp [keep, stays]
  | m + 1, i, b, h => by
    have hlt : i < r.length := by omega
    have e2 : IntKind.i64.wrap ((i : Int) + 1) = ((i + 1 : Nat) : Int) := by rw [wrap_id (by omega) (by omega)]; omega
    have hx : (r.map B)[i]? = some (B r[i]) := by simp [List.getElem?_eq_getElem hlt]
    rw [List.drop_eq_getElem_cons hlt, List.all_cons, ← Bool.and_assoc]
    refine lp_next (s1 := tl2 ins ands vals vv r vars L N (b && r[i]) (i + 1)) (D_law_CnfTells_b2_ok ?h2) (CT_loop2 hr m (i + 1) _ (by omega))
    case h2 =>
      unfold tl2
      cases b with
      | true => simp [D_law_CnfTells_b2, hlt, e2]
      | false => simp [D_law_CnfTells_b2, hlt, e2]

theorem CT_k3 {vars : Int} {C : List (List Int)} (G : TGood ins ands roots vars C) {vals : List Bool} {k : Nat} (hk : vars = k) :
    runL pg f_law_CnfTells_k3 ⟨[(3, LB vals), (4, .ptr false 0 0), (9, .ptr false 1 0), (11, .sl true 1 ((nodesL k).map I))], [[I ins, .sl false 2 (ands.map andV)], [I vars, .sl false 1 (C.map fun l => LI l)]], []⟩ = some (.ret, ⟨[(8, B true)], [], []⟩) := by
  obtain ⟨hi, hl, hok, hnd⟩ := chkE_zero G.chk
  obtain ⟨hc1, hc2, hc3⟩ := clsE_zero G.cl
  have hvs := G.vs
  have hSL : SL C := by rw [G.cs]; exact SL_append (andsC_short ins 0 0 ands) (rootsC_short 0 roots)
  have hH := Holds_eq (vars := vars) (v := vals) (gh := []) hSL
  refine D_law_CnfTells_k3_ok ?_
  unfold clV at hH
  by_cases hv : (vals.length : Int) = vars
  · have e1 : holdsE vars C vals = (holdB vals C, 0) := by
      unfold holdsE
      rw [if_neg (fun h => h G.cl), if_neg (fun h => h hv)]
    rw [e1] at hH
    cases hb : holdB vals C with
    | false =>
      rw [hb] at hH
      generalize (C.map fun l => LI l) = L at *
      simp [D_law_CnfTells_k3, hH]
    | true =>
      rw [hb] at hH
      have ht := tells_iff G (w := vals.take ins.toNat) hv rfl
      rw [hb] at ht
      have ht2 := ((Bool.and_eq_true _ _).mp ht.symm).1
      rw [decide_eq_true_eq] at ht2
      have hwl : ((vals.take ins.toNat).length : Int) = ins := by rw [List.length_take]; omega
      have hab : (nodesL k).all (isLit ins ands) = true := by
        rw [List.all_eq_true]
        intro x hx
        simp only [nodesL, List.mem_map, List.mem_range] at hx
        obtain ⟨j, hj, rfl⟩ := hx
        unfold isLit nodesOf
        rw [decide_eq_true_eq]
        omega
      have e2 : evE ins ands (vals.take ins.toNat) (nodesL k) = (vals, 0) := by
        unfold evE
        rw [if_neg (fun h => h G.chk), if_neg (by rw [hab]; simp), if_neg (fun h => h hwl), ht2, nodes_tell (by omega)]
      have hE := Eval_eq (ins := ins) (ands := ands) (v := vals.take ins.toNat) (lits := nodesL k) (gh := []) G.ra (by simp only [Sz, nodesL_len]; omega)
      rw [e2] at hE
      unfold graphV at hE
      have hS := sameBools_refl (v := vals) (gh := []) (by simp only [Sz]; omega)
      have hle : ins.toNat ≤ vals.length := by omega
      simp only [LB, List.map_take] at hE
      generalize (C.map fun l => LI l) = L at *
      simp [D_law_CnfTells_k3, hH, hi, hle, hE, hS]
  · have e1 : holdsE vars C vals = (false, 1) := by
      unfold holdsE
      rw [if_neg (fun h => h G.cl), if_pos hv]
    rw [e1] at hH
    generalize (C.map fun l => LI l) = L at *
    simp [D_law_CnfTells_k3, hH]

theorem all_map (f : Int → Bool) (l : List Int) : (l.map f).all id = l.all f := by
  induction l with
  | nil => rfl
  | cons x l ih => simp only [List.map_cons, List.all_cons, ih]; rfl

theorem CT_k1 {vars : Int} {C : List (List Int)} (G : TGood ins ands roots vars C) {w vals : List Bool} {k : Nat} (hk : vars = k) :
    runL pg f_law_CnfTells_k1 ⟨[(1, LI roots), (2, LB w), (3, LB vals), (4, .ptr false 0 0), (9, .ptr false 1 0), (11, .sl true 1 ((nodesL k).map I))], [[I ins, .sl false 2 (ands.map andV)], [I vars, .sl false 1 (C.map fun l => LI l)]], []⟩ = some (.ret, ⟨[(8, B true)], [], []⟩) := by
  obtain ⟨hi, hl, hok, hnd⟩ := chkE_zero G.chk
  obtain ⟨hc1, hc2, hc3⟩ := clsE_zero G.cl
  have hvs := G.vs
  have hSL : SL C := by rw [G.cs]; exact SL_append (andsC_short ins 0 0 ands) (rootsC_short 0 roots)
  have h3 := CT_k3 G (vals := vals) hk
  have hab : (nodesL k).all (isLit ins ands) = true := by
    rw [List.all_eq_true]
    intro x hx
    simp only [nodesL, List.mem_map, List.mem_range] at hx
    obtain ⟨j, hj, rfl⟩ := hx
    unfold isLit nodesOf
    rw [decide_eq_true_eq]
    omega
  have hE1 := Eval_eq (ins := ins) (ands := ands) (v := w) (lits := nodesL k) (gh := []) G.ra (by simp only [Sz, nodesL_len]; omega)
  have hE2 := Eval_eq (ins := ins) (ands := ands) (v := w) (lits := roots) (gh := []) G.ra (by have := G.rl; simp only [Sz]; omega)
  unfold graphV at hE1 hE2
  refine D_law_CnfTells_k1_ok ?_
  by_cases hv : (w.length : Int) = ins
  · have hal := allFrom_len (false :: w) ands
    obtain ⟨v, hvv⟩ : ∃ v, allFrom (false :: w) ands = false :: v := by
      have : ∀ (q : List Bool) (m : List (Int × Int)), ∃ t, allFrom (false :: q) m = false :: t := by
        intro q m
        induction m generalizing q with
        | nil => exact ⟨q, rfl⟩
        | cons y m ih => rw [allFrom]; exact ih _
      exact this w ands
    have hvl : (v.length : Int) = vars := by
      rw [hvv] at hal
      simp at hal; omega
    have e1 : evE ins ands w (nodesL k) = (v, 0) := by
      unfold evE
      rw [if_neg (fun h => h G.chk), if_neg (by rw [hab]; simp), if_neg (fun h => h hv), hvv, nodes_tell (by omega)]
    have e2 : evE ins ands w roots = (roots.map (litV (false :: v)), 0) := by
      unfold evE
      rw [if_neg (fun h => h G.chk), if_neg (by rw [G.lits]; simp), if_neg (fun h => h hv), hvv]
    rw [e1] at hE1
    rw [e2] at hE2
    have hwt : w = v.take ins.toNat := by
      have hpre : ∀ (q : List Bool) (m : List (Int × Int)), (allFrom q m).take q.length = q := by
        intro q m
        induction m generalizing q with
        | nil => rw [allFrom, List.take_length]
        | cons y m ih =>
          rw [allFrom]
          have := ih (q ++ [litV q y.1 && litV q y.2])
          have h2 := congrArg (List.take q.length) this
          rw [List.take_take, Nat.min_eq_left (by simp), List.take_append_of_le_length (Nat.le_refl _), List.take_length] at h2
          exact h2
      have h4 := hpre (false :: w) ands
      rw [hvv, List.length_cons, List.take_succ_cons] at h4
      simp only [List.cons.injEq, true_and] at h4
      rw [← h4]
      congr 1
      omega
    have ht := tells_iff G hvl hwt
    rw [decide_eq_true hvv, Bool.true_and] at ht
    have hH := Holds_eq (vars := vars) (v := v) (gh := []) hSL
    have e3 : holdsE vars C v = (roots.all (litV (false :: v)), 0) := by
      unfold holdsE
      rw [if_neg (fun h => h G.cl), if_neg (fun h => h hvl), ht]
    rw [e3] at hH
    unfold clV at hH
    have hL2 := CT_loop2 (ins := ins) (ands := ands) (vals := vals) (vv := v) (r := roots.map (litV (false :: v))) (vars := vars) (L := C.map fun l => LI l) (N := (nodesL k).map I) (by have := G.rl; simpa using this) roots.length 0 true (by simp)
    rw [List.drop_zero, all_map, Bool.true_and] at hL2
    unfold tl2 at hL2
    simp only [Int.natCast_zero] at hL2
    generalize roots.all (litV (false :: v)) = b at *
    generalize roots.map (litV (false :: v)) = r at *
    generalize (C.map fun l => LI l) = L at *
    generalize hNd : (nodesL k).map I = N at *
    simp only [LI, hNd] at hE1
    have hk2 := D_law_CnfTells_k2_ok (pg := pg) (gh := []) (v3 := LB vals) (v11 := .sl true 1 N) (v13 := LB v) (b16 := b) (xc0_0 := ins) (vc0_1 := .sl false 2 (ands.map andV)) (xc1_0 := vars) (vc1_1 := .sl false 1 L) (e := .normal)
      (s := ⟨[(3, LB vals), (4, .ptr false 0 0), (9, .ptr false 1 0), (11, .sl true 1 N), (94, B false)], [[I ins, .sl false 2 (ands.map andV)], [I vars, .sl false 1 L]], []⟩) (by
      simp [D_law_CnfTells_k2, hH])
    simp [D_law_CnfTells_k1, hE1, hE2, hL2, hk2, h3]
    rfl
  · have e1 : evE ins ands w (nodesL k) = ([], 1) := by
      unfold evE
      rw [if_neg (fun h => h G.chk), if_neg (by rw [hab]; simp), if_pos hv]
    have e2 : evE ins ands w roots = ([], 1) := by
      unfold evE
      rw [if_neg (fun h => h G.chk), if_neg (by rw [G.lits]; simp), if_pos hv]
    rw [e1] at hE1
    rw [e2] at hE2
    generalize (C.map fun l => LI l) = L at *
    generalize hNd : (nodesL k).map I = N at *
    simp only [LI, hNd] at hE1
    simp [D_law_CnfTells_k1, hE1, hE2, h3]

theorem CnfTells_eq {w vals : List Bool} (hr : RA ands) (hs : roots.length ≤ 1100000) : callL pg 31 [graphV ins ands, LI roots, LB w, LB vals] [] = some (B true, []) := by
  have hO := Of_eq (ins := ins) (gh := []) hr hs
  unfold graphV at hO
  refine callL_fn (fn := f_law_CnfTells) (s := ⟨[(8, B true)], [], []⟩) rfl rfl (D_law_CnfTells_0_ok ?h1) ?r1
  case r1 => simp [finish, results, f_law_CnfTells, resOfs, resOf, resOk]
  case h1 =>
    by_cases hc : chkE ins ands = 0
    · obtain ⟨hi, hl, hok, hnd⟩ := chkE_zero hc
      cases hab : roots.all (isLit ins ands) with
      | false =>
        have e : ofE ins ands roots = .tup [clV 0 [], I 5] := by
          unfold ofE
          rw [if_neg (fun h => h hc), if_pos hab]
        rw [e] at hO
        unfold clV at hO
        simp only [List.map_nil] at hO
        simp [D_law_CnfTells_0, cnfBegun_true, gatesBegun_true, hO]
      | true =>
        have e : ofE ins ands roots = doneE (ins + ands.length) (andsC ins 0 0 ands ++ rootsC 0 roots) := by
          unfold ofE
          rw [if_neg (fun h => h hc), if_neg (by rw [hab]; simp), wrap_id (by omega) (by omega)]
        rw [e] at hO
        by_cases hcl : clsE (ins + ands.length) (andsC ins 0 0 ands ++ rootsC 0 roots) = 0
        · have e : doneE (ins + ands.length) (andsC ins 0 0 ands ++ rootsC 0 roots) = .tup [clV (ins + ands.length) (andsC ins 0 0 ands ++ rootsC 0 roots), I 0] := if_pos hcl
          rw [e] at hO
          have G : TGood ins ands roots (ins + ands.length) (andsC ins 0 0 ands ++ rootsC 0 roots) := ⟨hr, hc, hab, hs, rfl, hcl, rfl⟩
          obtain ⟨k, hk⟩ : ∃ k : Nat, ins + (ands.length : Int) = k := ⟨(ins + ands.length).toNat, by omega⟩
          have h1 := CT_k1 G (w := w) (vals := vals) hk
          obtain ⟨hc1, -, -⟩ := clsE_zero hcl
          generalize andsC ins 0 0 ands ++ rootsC 0 roots = C at *
          rw [hk] at h1 hO hc1
          unfold clV at hO
          have hL1 := CT_loop1 (ins := ins) (ands := ands) (roots := roots) (w := w) (vals := vals) (k := k) (L := C.map fun l => LI l) (by omega) k 0 (by omega)
          unfold tl1 at hL1
          simp only [nodesL, List.range_zero, List.map_nil, Int.natCast_zero, Int.zero_add] at hL1
          simp only [nodesL] at h1
          generalize (C.map fun l => LI l) = L at *
          generalize ((List.range k).map fun j : Nat => 2 * ((j : Int) + 1)).map I = N at *
          simp [D_law_CnfTells_0, cnfBegun_true, gatesBegun_true, hO, hL1, h1]
        · have e : doneE (ins + ands.length) (andsC ins 0 0 ands ++ rootsC 0 roots) = .tup [clV 0 [], I (clsE (ins + ands.length) (andsC ins 0 0 ands ++ rootsC 0 roots))] := if_neg hcl
          rw [e] at hO
          generalize clsE (ins + ands.length) (andsC ins 0 0 ands ++ rootsC 0 roots) = er at *
          unfold clV at hO
          simp only [List.map_nil] at hO
          simp [D_law_CnfTells_0, cnfBegun_true, gatesBegun_true, hO, hcl]
    · have e : ofE ins ands roots = .tup [clV 0 [], I (chkE ins ands)] := if_pos hc
      rw [e] at hO
      unfold clV at hO
      simp only [List.map_nil] at hO
      simp [D_law_CnfTells_0, cnfBegun_true, gatesBegun_true, hO, hc]

end

abbrev insCnfTells : List (Bool × List CS) := [(true, graphC), (false, [.slice false 8 [.int]]), (false, [.slice false 1 [.bool]]), (false, [.slice false 1 [.bool]])]

theorem cnfTells_true (qs : List PV) (h : argsTy insCnfTells qs) (hn : bulkPs qs ≤ 1048576) : callL pg 31 qs [] = some (B true, []) := by
  obtain ⟨_, _, rfl, h0, h⟩ := argsTy_cons h
  obtain ⟨_, _, rfl, h1, h⟩ := argsTy_cons h
  obtain ⟨_, _, rfl, h2, h⟩ := argsTy_cons h
  obtain ⟨_, _, rfl, h3, h⟩ := argsTy_cons h
  obtain rfl := argsTy_nil h
  obtain ⟨ins, ands, rfl, hr, -⟩ := graph_ty h0
  obtain ⟨roots, rfl, -, -⟩ := ints_ty h1
  obtain ⟨w, rfl, -⟩ := bools_ty h2
  obtain ⟨vals, rfl, -⟩ := bools_ty h3
  refine CnfTells_eq hr ?_
  have := bulkPs_len (roots.map I)
  simp only [bulkPs, bulkP, List.length_map] at hn this
  omega

end Go.Lw
end
