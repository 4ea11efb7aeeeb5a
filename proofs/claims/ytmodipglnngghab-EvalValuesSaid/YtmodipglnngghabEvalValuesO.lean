/-
  The texts that the proof stands on, part 15.
-/
import Derived.Test.YtmodipglnngghabEvalValuesN
import Derived.OpenShut
import Derived.Carry
import Derived.Deep.Slices
import Derived.SizedLaws
set_option linter.unusedVariables false
set_option linter.unusedSimpArgs false
set_option linter.unnecessarySimpa false

/-! What is handed in from outside, opened: whatever the arguments are, they stand for values of the machine. -/
section
namespace Go.Lw
open Go Go.RowKit Go.ChangeShapes Go.WideShapes Go.Deep
inductive CS where
  | int
  | bool
  | str
  | slice (g : Bool) (bytes : Nat) (l : List CS)
mutual
def csOk : CS → PV → Prop
  | .int, p => ∃ n, p = .int .i64 n ∧ -9223372036854775808 ≤ n ∧ n ≤ 9223372036854775807
  | .bool, p => ∃ b, p = .bool b
  | .str, p => ∃ s, p = .str s ∧ s.size ≤ reachBytes
  | .slice g bytes l, p => ∃ xs, p = .sl false l.length xs ∧ xs.length * bytes ≤ reachBytes ∧ ∀ e ∈ xs, (g = true ∧ ∃ ps, e = .agg ps ∧ csAll l ps) ∨ (g = false ∧ csAll l [e])
def csAll : List CS → List PV → Prop
  | [], [] => True
  | c :: cs, p :: ps => csOk c p ∧ csAll cs ps
  | _, _ => False
end
/- How much there is: each value and each letter counts one. -/
mutual
def bulkP : PV → Nat
  | .str s => s.size + 1
  | .agg ps => bulkPs ps + 1
  | .sl _ _ xs => bulkPs xs + 1
  | _ => 1
def bulkPs : List PV → Nat
  | [] => 0
  | p :: r => bulkP p + bulkPs r
end
section
variable {H : Type}
mutual
def bulk : DataW H → Nat
  | .slice elems _ => bulkAll elems + 1
  | .agg parts => bulkAll parts + 1
  | .lit (.string b) => b.length + 1
  | _ => 1
def bulkAll : List (DataW H) → Nat
  | [] => 0
  | d :: r => bulk d + bulkAll r
end
end
theorem bulkPs_append : ∀ l m : List PV, bulkPs (l ++ m) = bulkPs l + bulkPs m
  | [], m => by simp [bulkPs]
  | p :: l, m => by simp only [List.cons_append, bulkPs, bulkPs_append l m]; omega
theorem bulkPs_sum {H : Type} (D : Nat → DataW H) : ∀ (xs : List PV) (n i : Nat), xs.length = n → (∀ j e, xs[j]? = some e → bulkP e ≤ bulk (D (i + j))) → bulkPs xs ≤ bulkAll ((List.range' i n).map D)
  | [], 0, i, _, _ => Nat.zero_le _
  | x :: xs, n + 1, i, hl, h => by
    have h0 := h 0 x rfl
    have hs := bulkPs_sum D xs n (i + 1) (by simpa using hl) fun j e he => by
      have := h (j + 1) e (by simpa using he)
      rwa [Nat.add_assoc, Nat.add_comm 1 j]
    simp only [bulkPs, List.range'_succ, List.map_cons, bulkAll]
    exact Nat.add_le_add h0 hs
  | [], n + 1, _, hl, _ => by simp at hl
  | _ :: _, 0, _, hl, _ => by simp at hl
theorem csAll_len : ∀ {l : List CS} {ps : List PV}, csAll l ps → ps.length = l.length
  | [], [], _ => rfl
  | _ :: _, _ :: _, h => by
    simp only [csAll] at h
    simp [csAll_len h.2]
  | [], _ :: _, h => by simp [csAll] at h
  | _ :: _, [], h => by simp [csAll] at h
theorem csAll_append : ∀ {l m : List CS} {ps qs : List PV}, csAll l ps → csAll m qs → csAll (l ++ m) (ps ++ qs)
  | [], _, [], _, _, h => h
  | _ :: _, _, _ :: _, _, h, h2 => by
    simp only [csAll] at h
    exact ⟨h.1, csAll_append h.2 h2⟩
  | [], _, _ :: _, _, h, _ => by simp [csAll] at h
  | _ :: _, _, [], _, h, _ => by simp [csAll] at h
theorem csOk_one {c : CS} {p : PV} (h : csOk c p) : p.one = true := by
  cases c <;> simp only [csOk] at h
  · obtain ⟨n, rfl, _⟩ := h; rfl
  · obtain ⟨b, rfl⟩ := h; rfl
  · obtain ⟨b, rfl, _⟩ := h; rfl
  · obtain ⟨xs, rfl, _⟩ := h; rfl
theorem csAll_one : ∀ {l : List CS} {ps : List PV}, csAll l ps → ps.all PV.one = true
  | [], [], _ => rfl
  | _ :: _, _ :: _, h => by
    simp only [csAll] at h
    simp [csOk_one h.1, csAll_one h.2]
  | [], _ :: _, h => by simp [csAll] at h
  | _ :: _, [], h => by simp [csAll] at h
theorem csAll_single {l : List CS} {p : PV} (h : csAll l [p]) : p.cells = [p] := by
  cases l with
  | nil => simp [csAll] at h
  | cons c l =>
    simp only [csAll] at h
    have h1 := h.1
    cases c <;> simp only [csOk] at h1
    · obtain ⟨n, rfl, _⟩ := h1; rfl
    · obtain ⟨b, rfl⟩ := h1; rfl
    · obtain ⟨b, rfl, _⟩ := h1; rfl
    · obtain ⟨xs, rfl, _⟩ := h1; rfl
def repN : Nat → List CS → List CS
  | 0, _ => []
  | n + 1, l => l ++ repN n l
theorem cell_lt {w : World} {a : Addr} {v : Value} (h : w.cell? a = some v) : a.block < w.heap.size := by
  rcases Nat.lt_or_ge a.block w.heap.size with h1 | h1
  · exact h1
  · simp [World.cell?, Array.getElem?_eq_none h1] at h
def isAgg (P : Program) (t : TypeId) : Bool := match P.underlying t with | some (.struct _) | some (.array _ _) => true | _ => false
mutual
def shape (P : Program) : Nat → TypeId → Option (List CS)
  | 0, _ => none
  | n + 1, t => match P.underlying t with
    | some .bool => some [.bool]
    | some (.int .i64) => some [.int]
    | some .string => some [.str]
    | some (.slice e) => match shape P n e with
      | some l => if P.cellsOf e = l.length ∧ (isAgg P e = true ∨ l.length = 1) ∧ 0 < l.length then some [.slice (isAgg P e) (P.bytesOf e) l] else none
      | none => none
    | some (.array k e) => match shape P n e with
      | some l => if P.cellsOf e = l.length ∧ P.cellsOf t = k * l.length then some (repN k l) else none
      | none => none
    | some (.struct fs) => match fieldsShape P n 0 fs.toList with
      | some l => if P.cellsOf t = l.length then some l else none
      | none => none
    | _ => none
def fieldsShape (P : Program) : Nat → Nat → List Field → Option (List CS)
  | 0, _, _ => none
  | _ + 1, _, [] => some []
  | n + 1, off, f :: fs => match shape P n f.type with
    | some l => if f.offset = off ∧ P.cellsOf f.type = l.length then (match fieldsShape P n (off + l.length) fs with | some r => some (l ++ r) | none => none) else none
    | none => none
end
def Reps (fi : Nat → Option Nat) (w : World) (ps : List PV) (cs : List Value) : Prop := ps.length = cs.length ∧ ∀ (i : Nat) (p : PV) (v : Value), ps[i]? = some p → cs[i]? = some v → RepP fi (Mem.start w) w p v
section
variable {H : Type} {enc : TypeId × Value → H} {P : Program} {w : World} {sp : Nat → Bool} {held : Bool} {fi : Nat → Option Nat}
theorem Reps.append {ps qs : List PV} {cs ds : List Value} (h : Reps fi w ps cs) (k : Reps fi w qs ds) : Reps fi w (ps ++ qs) (cs ++ ds) := by
  refine ⟨by simp [h.1, k.1], fun i p v hp hv => ?_⟩
  by_cases hi : i < ps.length
  · rw [List.getElem?_append_left hi] at hp
    rw [List.getElem?_append_left (by rw [← h.1]; exact hi)] at hv
    exact h.2 i p v hp hv
  · rw [List.getElem?_append_right (by omega)] at hp
    rw [List.getElem?_append_right (by rw [← h.1]; omega)] at hv
    rw [← h.1] at hv
    exact k.2 _ p v hp hv
theorem Reps.single {p : PV} {v : Value} (h : RepP fi (Mem.start w) w p v) : Reps fi w [p] [v] := by
  refine ⟨rfl, fun i q u hq hu => ?_⟩
  cases i with
  | zero => simp at hq hu; subst hq; subst hu; exact h
  | succ i => simp at hq
theorem weightsAll_mem {e : TypeId} : ∀ {ds : List (DataW H)} {i : Nat} {d : DataW H} {b : Nat}, ds[i]? = some d → b ∈ d.weights P e → b ∈ DataW.weightsAll P e ds
  | x :: r, 0, d, b, h, hb => by
    simp at h; subst h
    rw [DataW.weightsAll]; exact List.mem_append_left _ hb
  | x :: r, i + 1, d, b, h, hb => by
    rw [DataW.weightsAll]
    exact List.mem_append_right _ (weightsAll_mem (i := i) (by simpa using h) hb)
theorem ex_list {Q : Nat → PV → Prop} : ∀ (n : Nat), (∀ i, i < n → ∃ e, Q i e) → ∃ xs : List PV, xs.length = n ∧ ∀ i e, xs[i]? = some e → Q i e
  | 0, _ => ⟨[], rfl, fun i e h => by simp at h⟩
  | n + 1, h => by
    obtain ⟨xs, hl, hx⟩ := ex_list n fun i hi => h i (by omega)
    obtain ⟨e, he⟩ := h n (by omega)
    refine ⟨xs ++ [e], by simp [hl], fun i u hu => ?_⟩
    by_cases hi : i < xs.length
    · rw [List.getElem?_append_left hi] at hu; exact hx i u hu
    · rw [List.getElem?_append_right (by omega)] at hu
      have : i = n := by
        have := (List.getElem?_eq_some_iff.1 hu).1
        simp at this; omega
      subst this
      rw [hl] at hu; simp at hu; subst hu; exact he
def TypeOk (fi : Nat → Option Nat) (enc : TypeId × Value → H) (P : Program) (w : World) (sp : Nat → Bool) (held : Bool) (t : TypeId) (l : List CS) : Prop :=
  ∀ fuel cs x, DataW.trod enc P w 0 sp held fuel t cs = some x → (∀ b ∈ x.1.weights P t, b ≤ reachBytes) → ∃ ps, csAll l ps ∧ bulkPs ps + (isAgg P t).toNat ≤ bulk x.1 ∧ Reps fi w ps cs
theorem arr_ok {e : TypeId} {l : List CS} (hok : TypeOk fi enc P w sp held e l) {m : Nat} {cs : List Value} {xs : List (DataW H × List MemPlace)}
    (hx : ∀ j, j < xs.length → DataW.trod enc P w 0 sp held m e ((cs.drop (j * l.length)).take l.length) = xs[j]?) (hw : ∀ b ∈ DataW.weightsAll P e (xs.map (·.1)), b ≤ reachBytes) :
    ∀ k i, i + k = xs.length → ∃ ps, csAll (repN k l) ps ∧ bulkPs ps ≤ bulkAll ((xs.map (·.1)).drop i) ∧ Reps fi w ps ((cs.drop (i * l.length)).take (k * l.length))
  | 0, i, _ => ⟨[], by simp [repN, csAll], by simp [bulkPs], by simp [Reps]⟩
  | k + 1, i, hi => by
    have hlt : i < xs.length := by omega
    have h1 := hx i hlt
    rw [List.getElem?_eq_getElem hlt] at h1
    obtain ⟨ps, hp, hb1, hr⟩ := hok _ _ _ h1 fun b hb => hw b (weightsAll_mem (i := i) (by simp [List.getElem?_eq_getElem hlt]) hb)
    obtain ⟨qs, hq, hb2, hs⟩ := arr_ok hok hx hw k (i + 1) (by omega)
    refine ⟨ps ++ qs, csAll_append hp hq, ?_, ?_⟩
    · rw [bulkPs_append, List.drop_eq_getElem_cons (by simpa using hlt), bulkAll]
      simp only [List.getElem_map]; omega
    have : (cs.drop (i * l.length)).take ((k + 1) * l.length) = (cs.drop (i * l.length)).take l.length ++ (cs.drop ((i + 1) * l.length)).take (k * l.length) := by
      rw [Nat.succ_mul k, Nat.add_comm (k * l.length), List.take_add, List.drop_drop, Nat.succ_mul i]
    rw [this]
    exact hr.append hs
theorem fields_ok (n : Nat) (ih : ∀ k, k ≤ n → ∀ t l, shape P k t = some l → TypeOk fi enc P w sp held t l) :
    ∀ (k : Nat) (_ : k ≤ n + 1) (fs : List Field) (off : Nat) (l : List CS), fieldsShape P k off fs = some l → ∀ (cs : List Value) (xs : List (DataW H × List MemPlace)) (m : Nat), xs.length = fs.length →
      (∀ (i : Nat) (f : Field), fs[i]? = some f → DataW.trod enc P w 0 sp held m f.type ((cs.drop f.offset).take (P.cellsOf f.type)) = xs[i]?) →
      (∀ b ∈ DataW.weightsEach P (fs.map (·.type)) (xs.map (·.1)), b ≤ reachBytes) → ∃ ps, csAll l ps ∧ bulkPs ps ≤ bulkAll (xs.map (·.1)) ∧ Reps fi w ps ((cs.drop off).take l.length)
  | 0, _, fs, off, l, h, _, _, _, _, _, _ => by simp [fieldsShape] at h
  | k + 1, _, [], off, l, h, cs, xs, m, hl, hx, hw => by
    simp [fieldsShape] at h; subst h
    exact ⟨[], by simp [csAll], by simp [bulkPs], by simp [Reps]⟩
  | k + 1, hk, f :: fs, off, l, h, cs, xs, m, hl, hx, hw => by
    cases xs with
    | nil => simp at hl
    | cons x xs =>
      rw [fieldsShape] at h
      split at h
      · rename_i l1 hs1
        split at h
        · rename_i hc
          split at h
          · rename_i r hr
            simp at h; subst h
            have h0 := hx 0 f (by simp)
            simp only [List.getElem?_cons_zero] at h0
            rw [hc.1, hc.2] at h0
            obtain ⟨ps, hp, hb1, hrp⟩ := ih k (by omega) _ _ hs1 _ _ _ h0 fun b hb => hw b (by
              simp only [List.map_cons, DataW.weightsEach]; exact List.mem_append_left _ hb)
            obtain ⟨qs, hq, hb2, hrq⟩ := fields_ok n ih k (by omega) fs (off + l1.length) r hr cs xs m (by simpa using hl) (fun i g hg => by simpa using hx (i + 1) g (by simpa using hg)) (fun b hb => hw b (by
              simp only [List.map_cons, DataW.weightsEach]; exact List.mem_append_right _ hb))
            refine ⟨ps ++ qs, csAll_append hp hq, by rw [bulkPs_append, List.map_cons, bulkAll]; omega, ?_⟩
            rw [List.length_append, List.take_add, List.drop_drop]
            exact hrp.append hrq
          · cases h
        · cases h
      · cases h
theorem shape_ok : ∀ (n : Nat) (t : TypeId) (l : List CS), shape P n t = some l → TypeOk fi enc P w sp held t l := by
  intro n
  induction n using Nat.strongRecOn with
  | ind n ih =>
  cases n with
  | zero => intro t l h; simp [shape] at h
  | succ n =>
    intro t l h fuel cs x hx hw
    rw [shape] at h
    split at h
    · rename_i ht
      simp at h; subst h
      obtain ⟨b, rfl, rfl⟩ := DataW.trod_bool ht hx
      exact ⟨[.bool b], ⟨⟨b, rfl⟩, trivial⟩, by simp [bulkPs, bulkP, bulk, isAgg, ht], Reps.single (.bool b)⟩
    · rename_i ht
      simp at h; subst h
      obtain ⟨b, rfl, rfl, hwf⟩ := DataW.trod_int ht hx
      refine ⟨[.int .i64 b], ⟨⟨b, rfl, ?_⟩, trivial⟩, by simp [bulkPs, bulkP, bulk, isAgg, ht], Reps.single (.int .i64 b)⟩
      simp [Lit.wf, IntKind.min, IntKind.max, IntKind.signed, IntKind.bits] at hwf
      omega
    · rename_i ht
      simp at h; subst h
      obtain ⟨b, rfl, rfl, _⟩ := DataW.trod_string ht hx
      refine ⟨[.str b], ⟨⟨b, rfl, ?_⟩, trivial⟩, by simp [bulkPs, bulkP, bulk, isAgg, ht], Reps.single (.str b)⟩
      have := hw b.size (by simp [DataW.weights])
      exact this
    · rename_i e ht
      split at h
      · rename_i l1 hs1
        split at h
        · rename_i hc
          simp at h; subst h
          rcases open_slice ht hx with ⟨rfl, rfl⟩ | ⟨a, len, cap, m, n', D, Pl, rfl, _, hlc, hcm, hm, rfl, hi⟩
          · refine ⟨[.sl false l1.length []], ⟨⟨[], rfl, by simp, fun e he => by simp at he⟩, trivial⟩, by simp [bulkPs, bulkP, bulk, bulkAll, isAgg, ht], Reps.single ?_⟩
            exact .sl l1.length [] none 0 0 0 (fun _ => undef) (.inl rfl) (by simp) (fun e he => by simp at he) (fun e he => by simp at he) (fun i e j p he => by simp at he) (fun i e j p he => by simp at he)
          · have hlm : len ≤ m := by rw [hm]; split <;> omega
            have hwl : len * P.bytesOf e ≤ reachBytes := by
              have := hw ((len + (m - len)) * P.bytesOf e) (by
                rw [DataW.weights, ht]; simp)
              refine Nat.le_trans (Nat.mul_le_mul_right _ ?_) this; omega
            have key : ∀ i, i < len → ∃ u, bulkP u ≤ bulk (D i) ∧ (∃ ps : List PV, u.cells = ps ∧ csAll l1 ps ∧ ((isAgg P e = true ∧ u = .agg ps) ∨ (isAgg P e = false ∧ csAll l1 [u]))) ∧
                ∀ (j : Nat) (p : PV), u.cells[j]? = some p → ∃ v, w.cell? (a.add (i * P.cellsOf e + j)) = some v ∧ RepP fi (Mem.start w) w p v := by
              intro i hil
              obtain ⟨cs', hcells, htr⟩ := hi i (by omega)
              obtain ⟨ps, hp, hb1, hr⟩ := ih n (by omega) _ _ hs1 _ _ _ htr fun b hb => hw b (by
                rw [DataW.weights, ht]
                refine List.mem_cons_of_mem _ (List.mem_append_left _ (weightsAll_mem (i := i) ?_ hb))
                simp [List.getElem?_range, hil])
              obtain ⟨_, hcl, hat⟩ := World.cells?_some hcells
              have hpl := csAll_len hp
              have hget : ∀ (j : Nat) (p : PV), ps[j]? = some p → ∃ v, w.cell? (a.add (i * P.cellsOf e + j)) = some v ∧ RepP fi (Mem.start w) w p v := by
                intro j p hj
                have hjl : j < ps.length := (List.getElem?_eq_some_iff.1 hj).1
                have hjc : j < cs'.length := by rw [← hr.1]; exact hjl
                refine ⟨cs'[j], ?_, hr.2 j p _ hj (List.getElem?_eq_getElem hjc)⟩
                rw [← Go.Deep.add_add, hat j (by omega), List.getElem?_eq_getElem hjc]
              cases hg : isAgg P e with
              | true => exact ⟨.agg ps, by rw [bulkP]; simpa [hg] using hb1, ⟨ps, rfl, hp, .inl ⟨rfl, rfl⟩⟩, hget⟩
              | false =>
                have h1 : l1.length = 1 := hc.2.1.resolve_left (by simp [hg])
                obtain ⟨p0, rfl⟩ : ∃ p0, ps = [p0] := by
                  cases ps with
                  | nil => simp at hpl; omega
                  | cons p0 ps => cases ps with
                    | nil => exact ⟨p0, rfl⟩
                    | cons q qs => simp at hpl; omega
                have hcl0 := csAll_single hp
                exact ⟨p0, by simp [bulkPs] at hb1; omega, ⟨[p0], hcl0, hp, .inr ⟨rfl, hp⟩⟩, by rw [hcl0]; exact hget⟩
            obtain ⟨xs, hxl, hxs⟩ := ex_list len key
            have hmem : ∀ u ∈ xs, ∃ i, xs[i]? = some u := fun u hu => List.getElem?_of_mem hu
            refine ⟨[.sl false l1.length xs], ⟨⟨xs, rfl, by rw [hxl]; exact hwl, fun u hu => ?_⟩, trivial⟩, ?_, Reps.single ?_⟩
            · obtain ⟨i, hiu⟩ := hmem u hu
              obtain ⟨_, ⟨ps, hcps, hall, hor⟩, _⟩ := hxs i u hiu
              rcases hor with ⟨h1, h2⟩ | ⟨h1, h2⟩
              · exact .inl ⟨h1, ps, h2, hall⟩
              · exact .inr ⟨h1, h2⟩
            · have := bulkPs_sum D xs len 0 hxl fun j e he => by
                have := (hxs j e he).1
                rwa [Nat.zero_add]
              rw [← List.range_eq_range'] at this
              simp only [bulkPs, bulkP, bulk, isAgg, ht]; simpa using this
            · have hspot : xs = [] ∨ a.spot = none := by
                cases xs with
                | nil => exact .inl rfl
                | cons u us =>
                  refine .inr ?_
                  obtain ⟨_, ⟨ps, hcps, hall, hor⟩, hcel⟩ := hxs 0 u rfl
                  have hl1 := csAll_len hall
                  by_cases hz : ps = []
                  · rw [hz] at hl1
                    have := hc.2.2
                    simp at hl1; omega
                  · obtain ⟨p, ps', rfl⟩ := List.exists_cons_of_ne_nil hz
                    obtain ⟨v, hv, _⟩ := hcel 0 p (by rw [hcps]; rfl)
                    have := World.cell?_spot hv
                    simpa [Addr.add] using this
              have hcellE : P.cellsOf e = l1.length := hc.1
              rw [show len = xs.length from hxl.symm]
              refine .sl l1.length xs (some a) cap a.block a.off (fun k => (w.cell? ⟨a.block, a.off + k, none⟩).getD undef) ?_ (by omega) (fun u hu => ?_) (fun u hu => ?_) (fun i u j p hu hp => ?_) (fun i u j p hu hp => ?_)
              · rcases hspot with h | h
                · exact .inl h
                · refine .inr ?_
                  cases a; simp at h; subst h; rfl
              · obtain ⟨i, hiu⟩ := hmem u hu
                obtain ⟨_, ⟨ps, hcps, hall, _⟩, _⟩ := hxs i u hiu
                rw [hcps]; exact csAll_len hall
              · obtain ⟨i, hiu⟩ := hmem u hu
                obtain ⟨_, ⟨ps, hcps, hall, _⟩, _⟩ := hxs i u hiu
                rw [argOk, hcps]; exact csAll_one hall
              · obtain ⟨_, _, hcel⟩ := hxs i u hu
                obtain ⟨v, hv, hrep⟩ := hcel j p hp
                rw [hcellE] at hv
                have ha : a.add (i * l1.length + j) = ⟨a.block, a.off + (i * l1.length + j), none⟩ := by
                  have hs : a.spot = none := hspot.resolve_left fun h => by rw [h] at hu; simp at hu
                  cases a; simp at hs; subst hs
                  unfold Addr.add; split
                  · rename_i h0; rw [h0]; rfl
                  · rfl
                rw [ha] at hv
                refine ⟨?_, by rw [hv]; rfl⟩
                exact cell_lt (a := ⟨a.block, a.off + (i * l1.length + j), none⟩) hv
              · obtain ⟨_, _, hcel⟩ := hxs i u hu
                obtain ⟨v, hv, hrep⟩ := hcel j p hp
                rw [hcellE] at hv
                have ha : a.add (i * l1.length + j) = ⟨a.block, a.off + (i * l1.length + j), none⟩ := by
                  have hs : a.spot = none := hspot.resolve_left fun h => by rw [h] at hu; simp at hu
                  cases a; simp at hs; subst hs
                  unfold Addr.add; split
                  · rename_i h0; rw [h0]; rfl
                  · rfl
                rw [ha] at hv
                rw [hv]; exact hrep
        · cases h
      · cases h
    · rename_i k e ht
      split at h
      · rename_i l1 hs1
        split at h
        · rename_i hc
          simp at h; subst h
          obtain ⟨xs, m, rfl, rfl, hcl, hxl, hi⟩ := DataW.trod_array ht hx
          obtain ⟨ps, hp, hb1, hr⟩ := arr_ok (ih n (by omega) _ _ hs1) (cs := cs) (xs := xs) (m := m) (fun j hj => by rw [← hc.1]; exact hi j (by omega)) (fun b hb => hw b (by rw [DataW.weights, ht]; exact hb)) k 0 (by omega)
          refine ⟨ps, hp, by rw [bulk]; simp [isAgg, ht]; simpa using hb1, ?_⟩
          rw [Nat.zero_mul, List.drop_zero, ← hc.2, ← hcl, List.take_length] at hr
          exact hr
        · cases h
      · cases h
    · rename_i fs ht
      split at h
      · rename_i l1 hs1
        split at h
        · rename_i hc
          simp at h; subst h
          obtain ⟨xs, m, rfl, rfl, hcl, hxl, hi⟩ := DataW.trod_struct ht hx
          obtain ⟨ps, hp, hb1, hr⟩ := fields_ok n (fun k hk => ih k (by omega)) n (by omega) fs.toList 0 l1 hs1 cs xs m (by simpa using hxl) (fun i f hf => hi i f (by simpa using hf)) (fun b hb => hw b (by rw [DataW.weights, ht]; exact hb))
          refine ⟨ps, hp, by rw [bulk]; simp [isAgg, ht]; simpa using hb1, ?_⟩
          rw [List.drop_zero, ← hc, ← hcl, List.take_length] at hr
          exact hr
        · cases h
      · cases h
    · cases h
def argTy : Bool × List CS → PV → Prop
  | (true, l), p => ∃ ps, p = .agg ps ∧ csAll l ps
  | (false, l), p => csAll l [p]
def argsTy : List (Bool × List CS) → List PV → Prop
  | [], [] => True
  | c :: cs, p :: ps => argTy c p ∧ argsTy cs ps
  | _, _ => False
def shapes (P : Program) (n : Nat) : List TypeId → Option (List (Bool × List CS))
  | [] => some []
  | t :: ts => match shape P n t, shapes P n ts with
    | some l, some r => some ((isAgg P t, l) :: r)
    | _, _ => none
theorem argsTy_cons {c : Bool × List CS} {cs : List (Bool × List CS)} {qs : List PV} (h : argsTy (c :: cs) qs) : ∃ p ps, qs = p :: ps ∧ argTy c p ∧ argsTy cs ps := by
  cases qs with
  | nil => simp [argsTy] at h
  | cons p ps => exact ⟨p, ps, rfl, h⟩
theorem argsTy_nil {qs : List PV} (h : argsTy [] qs) : qs = [] := by
  cases qs with
  | nil => rfl
  | cons p ps => simp [argsTy] at h
theorem csAll_cons {c : CS} {cs : List CS} {qs : List PV} (h : csAll (c :: cs) qs) : ∃ p ps, qs = p :: ps ∧ csOk c p ∧ csAll cs ps := by
  cases qs with
  | nil => simp [csAll] at h
  | cons p ps => exact ⟨p, ps, rfl, h⟩
theorem csAll_nil {qs : List PV} (h : csAll [] qs) : qs = [] := by
  cases qs with
  | nil => rfl
  | cons p ps => simp [csAll] at h
theorem argTy_agg {l : List CS} {p : PV} (h : argTy (true, l) p) : ∃ ps, p = .agg ps ∧ csAll l ps := h
theorem csOk_int {p : PV} (h : csOk .int p) : ∃ n, p = .int .i64 n ∧ -9223372036854775808 ≤ n ∧ n ≤ 9223372036854775807 := h
theorem argTy_ok {c : Bool × List CS} {p : PV} (h : argTy c p) : argOk p = true := by
  obtain ⟨g, l⟩ := c
  cases g with
  | true =>
    obtain ⟨ps, rfl, h⟩ := h
    exact csAll_one h
  | false => rw [argOk, csAll_single h]; exact csAll_one h
theorem argsTy_ok : ∀ {L : List (Bool × List CS)} {ps : List PV}, argsTy L ps → ∀ p ∈ ps, argOk p = true
  | [], [], _, p, hp => by simp at hp
  | _ :: _, q :: ps, h, p, hp => by
    simp only [argsTy] at h
    rcases List.mem_cons.1 hp with rfl | hp
    · exact argTy_ok h.1
    · exact argsTy_ok h.2 p hp
  | [], _ :: _, h, _, _ => by simp [argsTy] at h
  | _ :: _, [], h, _, _ => by simp [argsTy] at h
theorem arg_ok {n : Nat} {t : TypeId} {l : List CS} (hs : shape P n t = some l) {base : Nat} {v : Value} {d : DataW H} {ps : List MemPlace} (hv : Value.okWide P w .any base t v) (hd : DataW.Trod enc P w 0 sp held t v d ps)
    (hw : ∀ b ∈ d.weights P t, b ≤ reachBytes) : ∃ p, argTy (isAgg P t, l) p ∧ bulkP p ≤ bulk d ∧ RepP fi (Mem.start w) w p v := by
  obtain ⟨fuel, hf⟩ := hd
  obtain ⟨qs, hq, hb1, hr⟩ := shape_ok (fi := fi) n t l hs fuel _ _ hf hw
  have hone : v.cells.toList = [v] → isAgg P t = false → ∃ p, argTy (isAgg P t, l) p ∧ bulkP p ≤ bulk d ∧ RepP fi (Mem.start w) w p v := by
    intro hc hg
    rw [hc] at hr
    cases qs with
    | nil => have := hr.1; simp at this
    | cons q qs => cases qs with
      | cons r qs => have := hr.1; simp at this
      | nil => exact ⟨q, by rw [hg]; exact hq, by simp [bulkPs] at hb1; omega, hr.2 0 q v rfl rfl⟩
  have hagg : (∃ cs, v = .agg cs) → isAgg P t = true → ∃ p, argTy (isAgg P t, l) p ∧ bulkP p ≤ bulk d ∧ RepP fi (Mem.start w) w p v := by
    rintro ⟨cs, rfl⟩ hg
    refine ⟨.agg qs, by rw [hg]; exact ⟨qs, rfl, hq⟩, by rw [bulkP]; simpa [hg] using hb1, ?_⟩
    obtain ⟨cl⟩ := cs
    exact .agg qs cl hr.1.symm hr.2
  cases n with
  | zero => simp [shape] at hs
  | succ n =>
    rw [shape] at hs
    split at hs
    · rename_i ht
      obtain ⟨b, rfl⟩ := okWide_bool ht hv
      exact hone rfl (by simp [isAgg, ht])
    · rename_i ht
      obtain ⟨b, rfl⟩ := okWide_int ht hv
      exact hone rfl (by simp [isAgg, ht])
    · rename_i ht
      obtain ⟨b, rfl⟩ := okWide_string ht hv
      exact hone rfl (by simp [isAgg, ht])
    · rename_i e ht
      obtain ⟨a, b, c, rfl⟩ := okWide_slice ht hv
      exact hone rfl (by simp [isAgg, ht])
    · rename_i k e ht
      refine hagg ?_ (by simp [isAgg, ht])
      simp only [Value.okWide, ht] at hv
      obtain ⟨cs, h1, _⟩ := hv
      exact ⟨cs, h1⟩
    · rename_i fs ht
      refine hagg ?_ (by simp [isAgg, ht])
      simp only [Value.okWide, ht] at hv
      obtain ⟨cs, h1, _⟩ := hv
      exact ⟨cs, h1⟩
    · cases hs
theorem args_ok {n base : Nat} : ∀ {ts : List TypeId} {L : List (Bool × List CS)} {vs : List Value} {ds : List (DataW H)} {ps : List MemPlace}, shapes P n ts = some L → DataW.TrodAll enc P w 0 sp held ts vs ds ps →
    (∀ (j : Nat) t v, ts[j]? = some t → vs[j]? = some v → Value.okWide P w .any base t v) → (∀ b ∈ DataW.weightsEach P ts ds, b ≤ reachBytes) →
    ∃ qs, argsTy L qs ∧ bulkPs qs ≤ bulkAll ds ∧ qs.length = vs.length ∧ ∀ (i : Nat) (p : PV) (v : Value), qs[i]? = some p → vs[i]? = some v → RepP fi (Mem.start w) w p v
  | [], L, vs, ds, ps, hs, ht, _, _ => by
    obtain ⟨rfl, rfl, rfl⟩ := trodAll_nil ht
    simp [shapes] at hs; subst hs
    exact ⟨[], trivial, Nat.zero_le _, rfl, fun i p v h => by simp at h⟩
  | t :: ts, L, vs, ds, ps, hs, ht, hv, hw => by
    obtain ⟨v, vs', d, ds', p, q, rfl, rfl, rfl, h1, h2⟩ := trodAll_cons ht
    simp only [shapes] at hs
    split at hs
    · rename_i l r hl hr
      simp at hs; subst hs
      obtain ⟨a, ha, hb1, hra⟩ := arg_ok (fi := fi) hl (hv 0 t v rfl rfl) h1 fun b hb => hw b (by simp only [DataW.weightsEach]; exact List.mem_append_left _ hb)
      obtain ⟨qs, hq, hb2, hl, hrq⟩ := args_ok hr h2 (fun j t v h1 h2 => hv (j + 1) t v (by simpa using h1) (by simpa using h2)) (fun b hb => hw b (by simp only [DataW.weightsEach]; exact List.mem_append_right _ hb))
      refine ⟨a :: qs, ⟨ha, hq⟩, by rw [bulkPs, bulkAll]; omega, by simp [hl], fun i p v h1 h2 => ?_⟩
      cases i with
      | zero => simp at h1 h2; subst h1; subst h2; exact hra
      | succ i => exact hrq i p v (by simpa using h1) (by simpa using h2)
    · cases hs
theorem trodAll_below {W W' : World} (hl : laidOutB P = true) (hb : Below W.heap.size W W') : ∀ {ts : List TypeId} {vs : List Value} {ds : List (DataW H)} {ps : List MemPlace},
    (ts.all fun t => P.readableRec t && decide (t < P.types.size)) = true → DataW.TrodAll enc P W 0 (fun _ => true) true ts vs ds ps → DataW.TrodAll enc P W' 0 (fun b => decide (b < W.heap.size)) true ts vs ds ps
  | [], vs, ds, ps, _, h => by
    obtain ⟨rfl, rfl, rfl⟩ := trodAll_nil h
    exact h
  | t :: ts, vs, ds, ps, hr, h => by
    obtain ⟨v, vs', d, ds', p, q, rfl, rfl, rfl, h1, h2⟩ := trodAll_cons h
    simp only [List.all_cons, Bool.and_eq_true, decide_eq_true_eq] at hr
    have lt : ∀ x ∈ p, x.block < W.heap.size := by obtain ⟨m, hm⟩ := h1; exact DataW.trod_lt m _ _ _ hm
    exact ⟨p, q, Below.trod hl hr.1.1 hr.1.2 h1 hb lt, trodAll_below hl hb hr.2 h2, rfl⟩
end
end Go.Lw
end

/-! When the machine's functions stand for the program's: asked by one check over a list of both numbers; and what a law's row needs behind it. -/
section
namespace Go.Lw
open Go Go.RowKit
def linkF (P : Program) (fi : Nat → Option Nat) (pg : Prg) (f F : Nat) : Bool :=
  match P.funcs[F]? with
  | some Fn => match Fn.body with
    | some c => match pg f with
      | some (.code fn) => (!(Fn.name == "runtime.NumGoroutine")) && (matchC P fi Fn.ntmps fn.body c && mRes P fn.res Fn.results.toList)
      | _ => !(Fn.name == "runtime.NumGoroutine")
    | none => false
  | none => false
def isLib (pg : Prg) (f : Nat) : Bool := match pg f with | some (.lib _) => true | _ => false
theorem linkF_ok {P : Program} {fi : Nat → Option Nat} {pg : Prg} {f F : Nat} (h : linkF P fi pg f F = true) (hl : ∀ L, pg f = some (.lib L) → ∀ vs gh r gh', L vs gh = some (r, gh') → (∀ p ∈ vs, argOk p = true) → CallOk P fi F vs gh r gh') :
    HasBody P F ∧ match pg f with
    | some (.code fn) => ∃ Fn c, P.funcs[F]? = some Fn ∧ Fn.body = some c ∧ matchC P fi Fn.ntmps fn.body c = true ∧ mRes P fn.res Fn.results.toList = true
    | some (.lib L) => ∀ vs gh r gh', L vs gh = some (r, gh') → (∀ p ∈ vs, argOk p = true) → CallOk P fi F vs gh r gh'
    | none => True := by
  unfold linkF at h
  cases hF : P.funcs[F]? with
  | none => rw [hF] at h; cases h
  | some Fn =>
    rw [hF] at h; simp only at h
    cases hc : Fn.body with
    | none => rw [hc] at h; cases h
    | some c =>
      rw [hc] at h; simp only at h
      cases hp : pg f with
      | none =>
        rw [hp] at h
        exact ⟨⟨Fn, c, hF, by simpa using h, hc⟩, trivial⟩
      | some df =>
        cases df with
        | lib L =>
          rw [hp] at h
          exact ⟨⟨Fn, c, hF, by simpa using h, hc⟩, hl L hp⟩
        | code fn =>
          rw [hp] at h
          simp only [Bool.and_eq_true, Bool.not_eq_true'] at h
          exact ⟨⟨Fn, c, hF, h.1, hc⟩, Fn, c, rfl, hc, h.2.1, h.2.2⟩
def fiOf (l : List (Nat × Nat)) (f : Nat) : Option Nat := (l.find? (·.1 == f)).map (·.2)
theorem fiOf_mem {l : List (Nat × Nat)} {f F : Nat} (h : fiOf l f = some F) : (f, F) ∈ l := by
  unfold fiOf at h
  simp only [Option.map_eq_some_iff] at h
  obtain ⟨⟨a, b⟩, h1, rfl⟩ := h
  have h2 := List.find?_some h1
  have h3 := List.mem_of_find?_eq_some h1
  simp at h2; subst h2
  exact h3
theorem link_of {P : Program} {l : List (Nat × Nat)} {pg : Prg} (h : (l.all fun x => linkF P (fiOf l) pg x.1 x.2) = true)
    (hl : ∀ f F L, (f, F) ∈ l → pg f = some (.lib L) → ∀ vs gh r gh', L vs gh = some (r, gh') → (∀ p ∈ vs, argOk p = true) → CallOk P (fiOf l) F vs gh r gh') : LinkOk P (fiOf l) pg := by
  intro f F hf
  have hm := fiOf_mem hf
  rw [List.all_eq_true] at h
  exact linkF_ok (h _ hm) (fun L => hl f F L hm)
theorem row_ok_bulk {H : Type} {enc : TypeId × Value → H} {P : Program} {fi : Nat → Option Nat} {pg : Prg} (hP : P.follows .mixedOrders = true) (hL : LinkOk P fi pg) {f F n : Nat} (hf : fi f = some F) {ts : List TypeId} {L : List (Bool × List CS)}
    (hs : shapes P n ts = some L) {N : Nat} (hlaw : ∀ qs, argsTy L qs → bulkPs qs ≤ N → callL pg f qs [] = some (.bool true, [])) {W : World} {base : Nat} {args : List Value} {ds : List (DataW H)} {ps : List MemPlace}
    (hA : DataW.TrodAll enc P W 0 (fun _ => true) true ts args ds ps) (hv : ∀ (j : Nat) t v, ts[j]? = some t → args[j]? = some v → Value.okWide P W .any base t v) (hw : (DataW.weightsEach P ts ds).all (· ≤ reachBytes) = true) (hN : bulkAll ds ≤ N) :
    Calls P F args.toArray W fun e W' => e = .returned (.bool true) ∧ Below W.heap.size W W' := by
  obtain ⟨qs, hq, hbk, hl, hr⟩ := args_ok (fi := fi) hs hA hv (by simpa using hw)
  refine (top_ok hP hL (hlaw qs hq (Nat.le_trans hbk hN)) (argsTy_ok hq) hf hl.symm hr).mono ?_
  rintro e w' ⟨v, M', rfl, _, hres, h1, h2, h3, h4, h5⟩
  refine ⟨?_, ⟨h1, h2, h3, h4, h5⟩⟩
  have : RepP fi M' w' (.bool true) v := hres
  cases this; rfl
theorem row_ok {H : Type} {enc : TypeId × Value → H} {P : Program} {fi : Nat → Option Nat} {pg : Prg} (hP : P.follows .mixedOrders = true) (hL : LinkOk P fi pg) {f F n : Nat} (hf : fi f = some F) {ts : List TypeId} {L : List (Bool × List CS)}
    (hs : shapes P n ts = some L) (hlaw : ∀ qs, argsTy L qs → callL pg f qs [] = some (.bool true, [])) {W : World} {base : Nat} {args : List Value} {ds : List (DataW H)} {ps : List MemPlace}
    (hA : DataW.TrodAll enc P W 0 (fun _ => true) true ts args ds ps) (hv : ∀ (j : Nat) t v, ts[j]? = some t → args[j]? = some v → Value.okWide P W .any base t v) (hw : (DataW.weightsEach P ts ds).all (· ≤ reachBytes) = true) :
    Calls P F args.toArray W fun e W' => e = .returned (.bool true) ∧ Below W.heap.size W W' :=
  row_ok_bulk hP hL hf hs (fun qs h _ => hlaw qs h) hA hv hw (Nat.le_refl _)
end Go.Lw
end

/-! The law GatesAnds, of the machine: it answers true. -/
section
namespace Go.Lw
open Go
section
variable {ins : Int} {ands : List (Int × Int)} {gh : List GObj}
end
theorem csOk_slice {g : Bool} {bytes : Nat} {l : List CS} {p : PV} (h : csOk (.slice g bytes l) p) : ∃ xs, p = .sl false l.length xs ∧ xs.length * bytes ≤ reachBytes ∧ ∀ e ∈ xs, (g = true ∧ ∃ ps, e = .agg ps ∧ csAll l ps) ∨ (g = false ∧ csAll l [e]) := by
  unfold csOk at h; exact h
theorem and_list : ∀ {xs : List PV}, (∀ e ∈ xs, (true = true ∧ ∃ ps, e = .agg ps ∧ csAll [.int, .int] ps) ∨ (true = false ∧ csAll [.int, .int] [e])) → ∃ ands, RA ands ∧ xs = ands.map andV
  | [], _ => ⟨[], fun x h => (by cases h), rfl⟩
  | e :: xs, h => by
    obtain ⟨ands, hr, rfl⟩ := and_list (xs := xs) fun e he => h e (List.mem_cons_of_mem _ he)
    rcases h e (by simp) with ⟨-, ps, rfl, hp⟩ | ⟨h, -⟩
    · obtain ⟨_, _, rfl, g0, hp⟩ := csAll_cons hp
      obtain ⟨_, _, rfl, g1, hp⟩ := csAll_cons hp
      obtain rfl := csAll_nil hp
      obtain ⟨a, rfl, ha⟩ := csOk_int g0
      obtain ⟨b, rfl, hb⟩ := csOk_int g1
      refine ⟨(a, b) :: ands, fun x hx => ?_, rfl⟩
      rcases List.mem_cons.1 hx with rfl | hx
      · exact ⟨ha, hb⟩
      · exact hr x hx
    · cases h
end Go.Lw
end

/-! The law GatesEvals, of the machine: it answers true. -/
section
namespace Go.Lw
open Go
section
variable {ins : Int} {ands : List (Int × Int)} {gh : List GObj}
end
def RI (l : List Int) : Prop := ∀ x ∈ l, -9223372036854775808 ≤ x ∧ x ≤ 9223372036854775807
theorem int_list : ∀ {xs : List PV}, (∀ e ∈ xs, (false = true ∧ ∃ ps, e = .agg ps ∧ csAll [.int] ps) ∨ (false = false ∧ csAll [.int] [e])) → ∃ v : List Int, RI v ∧ xs = v.map I
  | [], _ => ⟨[], fun x h => (by cases h), rfl⟩
  | e :: xs, h => by
    obtain ⟨v, hr, rfl⟩ := int_list (xs := xs) fun e he => h e (List.mem_cons_of_mem _ he)
    rcases h e (by simp) with ⟨h, -⟩ | ⟨-, hp⟩
    · cases h
    · obtain ⟨_, _, e1, g0, hp⟩ := csAll_cons hp
      cases csAll_nil hp
      simp only [List.cons.injEq, and_true] at e1
      subst e1
      obtain ⟨b, rfl, hb⟩ := csOk_int g0
      refine ⟨b :: v, fun x hx => ?_, rfl⟩
      rcases List.mem_cons.1 hx with rfl | hx
      · exact hb
      · exact hr x hx
theorem argTy_one {c : CS} {p : PV} (h : argTy (false, [c]) p) : csOk c p := by
  obtain ⟨q, ps, e, h1, h2⟩ := csAll_cons h
  cases csAll_nil h2
  simp only [List.cons.injEq, and_true] at e
  subst e; exact h1
theorem ints_ty {p : PV} (h : argTy (false, [.slice false 8 [.int]]) p) : ∃ v : List Int, p = LI v ∧ RI v ∧ v.length * 8 ≤ reachBytes := by
  obtain ⟨xs, rfl, hb, hx⟩ := csOk_slice (argTy_one h)
  obtain ⟨v, hr, rfl⟩ := int_list hx
  refine ⟨v, rfl, hr, ?_⟩
  simpa using hb
end Go.Lw
end

/-! Models: what must be in any case, lists compared, and models out of rows. -/
section
namespace Go.Lw
open Go
def toggleM : Md := ⟨[⟨1, 1, 0, 0, 0, 0⟩, ⟨3, 1, 0, 0, 0, 0⟩, ⟨4, 1, 1, 0, 0, 0⟩], [(1, 0)], [(1, 2)], [1], []⟩
section
variable {m : Md} {gh : List GObj}
theorem toggle_eq : callL pg 75 [] gh = some (modelV toggleM, gh) := by
  refine callL_fn (fn := f_law_toggle) (s := ?s1) rfl rfl (D_law_toggle_0_ok ?h1) ?r1
  case h1 => simp only [D_law_toggle_0]; rfl
  case r1 => simp [finish, results, f_law_toggle, resOfs, resOf, resOk, St.cellsAt, modelV_def, toggleM, nodeV_def, andV_def]
theorem listIs_eq {xs ys : List Int} {w : Int} (hs : Sz xs.length) (h : w = 0 → ys = xs) (h2 : w ≠ 0 → xs = []) : callL pg 40 [LI xs, I w, I w, LI ys] gh = some (B true, gh) := by
  have hr := SameInts_refl (gh := gh) hs
  have k1 : runL pg f_law_listIs_k1 ⟨[(0, LI xs), (1, I w), (2, I w), (3, LI xs)], [], gh⟩ = some (.ret, ⟨[(8, B true)], [], gh⟩) := by
    refine D_law_listIs_k1_ok ?_
    simp [D_law_listIs_k1, hr]
  refine callL_fn (fn := f_law_listIs) (s := ⟨[(8, B true)], [], gh⟩) rfl rfl (D_law_listIs_0_ok ?h1) ?r1
  case r1 => simp [finish, results, f_law_listIs, resOfs, resOf, resOk]
  case h1 =>
    by_cases hw : w = 0
    · rw [h hw]
      generalize xs.map I = X at *
      simp [D_law_listIs_0, hw] at k1 ⊢
      simp [k1]
    · rw [h2 hw] at k1 hr ⊢
      have k1' : runL pg f_law_listIs_k1 ⟨[(0, .sl false 1 []), (1, I w), (2, I w), (3, .sl true 1 [])], [], gh⟩ = some (.ret, ⟨[(8, B true)], [], gh⟩) := by
        refine D_law_listIs_k1_ok ?_
        simp only [LI, List.map_nil] at hr
        simp [D_law_listIs_k1, hr]
      simp only [LI, List.map_nil]
      simp [D_law_listIs_0, hw, k1']
end
abbrev modelC : List CS := [.slice true 48 [.int, .int, .int, .int, .int, .int], .slice true 16 [.int, .int], .slice true 16 [.int, .int], .slice false 8 [.int], .slice false 8 [.int]]
structure MdOk (m : Md) : Prop where
  nodes : m.nodes.length * 48 ≤ reachBytes
  inits : m.inits.length * 16 ≤ reachBytes
  nexts : m.nexts.length * 16 ≤ reachBytes
  bads : m.bads.length * 8 ≤ reachBytes
  holds : m.holds.length * 8 ≤ reachBytes
theorem node_list : ∀ {xs : List PV}, (∀ e ∈ xs, (true = true ∧ ∃ ps, e = .agg ps ∧ csAll [.int, .int, .int, .int, .int, .int] ps) ∨ (true = false ∧ csAll [.int, .int, .int, .int, .int, .int] [e])) → ∃ l : List Nd, xs = l.map nodeV
  | [], _ => ⟨[], rfl⟩
  | e :: xs, h => by
    obtain ⟨l, rfl⟩ := node_list (xs := xs) fun e he => h e (List.mem_cons_of_mem _ he)
    rcases h e (by simp) with ⟨-, ps, rfl, hp⟩ | ⟨h, -⟩
    · obtain ⟨_, _, rfl, g0, hp⟩ := csAll_cons hp
      obtain ⟨_, _, rfl, g1, hp⟩ := csAll_cons hp
      obtain ⟨_, _, rfl, g2, hp⟩ := csAll_cons hp
      obtain ⟨_, _, rfl, g3, hp⟩ := csAll_cons hp
      obtain ⟨_, _, rfl, g4, hp⟩ := csAll_cons hp
      obtain ⟨_, _, rfl, g5, hp⟩ := csAll_cons hp
      obtain rfl := csAll_nil hp
      obtain ⟨a0, rfl, -⟩ := csOk_int g0
      obtain ⟨a1, rfl, -⟩ := csOk_int g1
      obtain ⟨a2, rfl, -⟩ := csOk_int g2
      obtain ⟨a3, rfl, -⟩ := csOk_int g3
      obtain ⟨a4, rfl, -⟩ := csOk_int g4
      obtain ⟨a5, rfl, -⟩ := csOk_int g5
      exact ⟨⟨a0, a1, a2, a3, a4, a5⟩ :: l, rfl⟩
    · cases h
theorem model_ty {p : PV} (h : argTy (true, modelC) p) : ∃ m, p = modelV m ∧ MdOk m := by
  obtain ⟨ps, rfl, hp⟩ := argTy_agg h
  obtain ⟨_, _, rfl, g0, hp⟩ := csAll_cons hp
  obtain ⟨_, _, rfl, g1, hp⟩ := csAll_cons hp
  obtain ⟨_, _, rfl, g2, hp⟩ := csAll_cons hp
  obtain ⟨_, _, rfl, g3, hp⟩ := csAll_cons hp
  obtain ⟨_, _, rfl, g4, hp⟩ := csAll_cons hp
  obtain rfl := csAll_nil hp
  obtain ⟨x0, rfl, b0, h0⟩ := csOk_slice g0
  obtain ⟨x1, rfl, b1, h1⟩ := csOk_slice g1
  obtain ⟨x2, rfl, b2, h2⟩ := csOk_slice g2
  obtain ⟨x3, rfl, b3, h3⟩ := csOk_slice g3
  obtain ⟨x4, rfl, b4, h4⟩ := csOk_slice g4
  obtain ⟨l0, rfl⟩ := node_list h0
  obtain ⟨l1, -, rfl⟩ := and_list h1
  obtain ⟨l2, -, rfl⟩ := and_list h2
  obtain ⟨l3, -, rfl⟩ := int_list h3
  obtain ⟨l4, -, rfl⟩ := int_list h4
  exact ⟨⟨l0, l1, l2, l3, l4⟩, rfl, ⟨by simpa using b0, by simpa using b1, by simpa using b2, by simpa using b3, by simpa using b4⟩⟩
end Go.Lw
end

/-! Cones: what is reached, in plain terms. -/
section
namespace Go.Lw
open Go
structure MdGood (m : Md) : Prop where
  len : m.nodes.length ≤ 80
  ahead : Ahead m.nodes
  pairs : ∀ p ∈ m.inits ++ m.nexts, isNo m.nodes p.1 ∧ isNo m.nodes p.2
  nod1 : (m.inits.map (·.1)).Nodup
  nod2 : (m.nexts.map (·.1)).Nodup
theorem pairsE_zero {l : List Nd} {f : List Bool} {init : Bool} : ∀ {ps : List (Int × Int)}, pairsE l f init ps = 0 → ∀ p ∈ ps, isNo l p.1 ∧ isNo l p.2
  | [], _, p, hp => by cases hp
  | q :: ps, h, p, hp => by
    rw [pairsE] at h
    split at h
    · rename_i h0
      rcases List.mem_cons.1 hp with rfl | hp
      · unfold pairE at h0
        split at h0
        · contradiction
        · rename_i hn
          exact ⟨Classical.byContradiction fun h => hn (.inl h), Classical.byContradiction fun h => hn (.inr (.inl h))⟩
      · exact pairsE_zero h p hp
    · contradiction
theorem good_of {m : Md} (h : checkE m = 0) : MdGood m := by
  unfold checkE at h
  split at h
  · contradiction
  rename_i h1
  split at h
  · contradiction
  rename_i h2
  split at h
  · contradiction
  split at h
  · contradiction
  rename_i h4
  have h4 : pairsAll m (hangF [] m.nodes) = 0 := Classical.byContradiction h4
  unfold pairsAll at h4
  split at h4
  · contradiction
  rename_i e1
  split at h4
  · contradiction
  rename_i e2
  split at h4
  · contradiction
  rename_i e3
  have e1 := Classical.byContradiction e1
  have e2 := Classical.byContradiction e2
  refine ⟨by omega, ahead_of (Classical.byContradiction h2), fun p hp => ?_, ?_, ?_⟩
  · rcases List.mem_append.1 hp with hp | hp
    · exact pairsE_zero e1 p hp
    · exact pairsE_zero e2 p hp
  · exact Classical.byContradiction fun h => e3 (.inl h)
  · exact Classical.byContradiction fun h => e3 (.inr h)
end Go.Lw
end

/-! The law WordApplies, of the machine: it answers true. -/
section
namespace Go.Lw
open Go
theorem natOf {x : Int} (h : 0 ≤ x) : ∃ n : Nat, x = n := ⟨x.toNat, by omega⟩
section
variable (k width n v e a b c w0 w1 w2 : Int) (gh : List GObj)
end
end Go.Lw
end

/-! Values of a model: words of nodes, and what is wrong with what is handed in. -/
section
namespace Go.Lw
open Go
def WdOk (l : List Nd) (ns : List Int) : Prop := ∀ a ∈ ns, isNo l a ∧ 1 ≤ wAt l a ∧ wAt l a ≤ 8
def wordsF (L : List Nd) : List Int → List Int → Int
  | a :: ns, v :: vs => if 0 ≤ v ∧ v < ((2 ^ (wAt L a).toNat : Nat) : Int) then wordsF L ns vs else 3
  | [], _ => 0
  | _ :: _, [] => 0
def wordsE (L : List Nd) (ns vs : List Int) : Int := if vs.length ≠ ns.length then 2 else wordsF L ns vs
section
variable {m : Md} {gh : List GObj}
def woSt (m : Md) (ns vs : List Int) (i : Nat) (gh : List GObj) : St :=
  ⟨[(2, LI vs), (3, .ptr false 0 0), (14, LI ns), (15, I ns.length), (16, I (i : Int))], [[LN m.nodes, LP m.inits, LP m.nexts, LI m.bads, LI m.holds]], gh⟩
theorem Words_loop {ns vs : List Int} (hx : WdOk m.nodes ns) (hl : ns.length ≤ 1000) (hv : vs.length = ns.length) : ∀ k i, i + k = ns.length →
    runL pg f_eval_Words_l1 (woSt m ns vs i gh) = if wordsF m.nodes (ns.drop i) (vs.drop i) = 0 then some (.normal, ⟨[], [], gh⟩) else some (.ret, ⟨[(6, I (wordsF m.nodes (ns.drop i) (vs.drop i)))], [], gh⟩)
  | 0, i, h => by
    rw [List.drop_eq_nil_of_le (by omega), wordsF, if_pos rfl]
    have hlt : ¬ (i : Int) < (ns.length : Int) := by omega
    refine (lp_exit (s1 := ?s1) (D_eval_Words_b1_ok ?h1)).trans ?r1
    case h1 => simp only [D_eval_Words_b1, decide_eq_false hlt, br_false]; rfl
    case r1 => simp [keep]
  | k + 1, i, h => by
    have hlt : i < ns.length := by omega
    have hltI : (i : Int) < (ns.length : Int) := by omega
    have hlv : i < vs.length := by omega
    have e2 : IntKind.i64.wrap ((i : Int) + 1) = ((i + 1 : Nat) : Int) := by rw [wrap_id (by omega) (by omega)]; omega
    have hg : (ns.map I)[i]? = some (I ns[i]) := by simp [List.getElem?_eq_getElem hlt]
    have hgv : (vs.map I)[i]? = some (I vs[i]) := by simp [List.getElem?_eq_getElem hlv]
    obtain ⟨hno, hw⟩ := hx _ (List.getElem_mem hlt)
    have hn := node_at hno
    have h0 := hno.1
    rw [List.drop_eq_getElem_cons hlt, List.drop_eq_getElem_cons hlv, wordsF]
    have hIW := IsWord_eq vs[i] (wAt m.nodes ns[i]) (by omega) gh
    rw [shl1 hw] at hIW
    generalize ns[i] = a at *
    generalize vs[i] = v at *
    unfold wAt at *
    generalize hd : m.nodes.getD a.toNat default = d at *
    rw [nodeV_def d] at hn
    by_cases hc : 0 ≤ v ∧ v < ((2 ^ d.w.toNat : Nat) : Int)
    · rw [decide_eq_true hc] at hIW
      rw [if_pos hc]
      refine lp_next (s1 := woSt m ns vs (i + 1) gh) (D_eval_Words_b1_ok ?_) (Words_loop hx hl hv k (i + 1) (by omega))
      unfold woSt
      simp [D_eval_Words_b1, hltI, hg, hgv, h0, hn, hIW, e2, -List.getElem?_map]
    · rw [decide_eq_false hc] at hIW
      rw [if_neg hc, if_neg (by decide)]
      refine lp_ret (D_eval_Words_b1_ok ?_)
      simp [D_eval_Words_b1, hltI, hg, hgv, h0, hn, hIW, -List.getElem?_map]
theorem Words_eq {ns vs : List Int} (hx : WdOk m.nodes ns) (hl : ns.length ≤ 1000) : callL pg 135 [modelV m, LI ns, LI vs] gh = some (I (wordsE m.nodes ns vs), gh) := by
  rw [modelV_def]
  unfold wordsE
  by_cases hv : vs.length = ns.length
  · rw [if_neg (by omega)]
    have h := Words_loop (gh := gh) hx hl hv ns.length 0 (by omega)
    rw [List.drop_zero, List.drop_zero] at h
    unfold woSt at h
    simp only [Int.natCast_zero] at h
    have hk := D_eval_Words_k1_ok (pg := pg) (gh := gh) rfl
    by_cases hz : wordsF m.nodes ns vs = 0
    · rw [if_pos hz] at h
      rw [hz]
      refine callL_fn (fn := f_eval_Words) (s := ⟨[(6, I 0)], [], gh⟩) rfl rfl (D_eval_Words_0_ok ?h1) ?r1
      case h1 => simp [D_eval_Words_0, hv, h, hk]
      case r1 => simp [finish, results, f_eval_Words, resOfs, resOf, resOk]
    · rw [if_neg hz] at h
      generalize wordsF m.nodes ns vs = r at *
      refine callL_fn (fn := f_eval_Words) (s := ⟨[(6, I r)], [], gh⟩) rfl rfl (D_eval_Words_0_ok ?h2) ?r2
      case h2 => simp [D_eval_Words_0, hv, h]
      case r2 => simp [finish, results, f_eval_Words, resOfs, resOf, resOk]
  · rw [if_pos hv]
    have hd : decide ((vs.length : Int) = (ns.length : Int)) = false := decide_eq_false (by omega)
    refine callL_fn (fn := f_eval_Words) (s := ⟨[(6, I 2)], [], gh⟩) rfl rfl (D_eval_Words_0_ok ?h3) ?r3
    case h3 => simp [D_eval_Words_0, hd]
    case r3 => simp [finish, results, f_eval_Words, resOfs, resOf, resOk]
theorem CWords_loop {ns vs : List Int} (hx : WdOk m.nodes ns) (hl : ns.length ≤ 1000) (hv : vs.length = ns.length) : ∀ k i, i + k = ns.length →
    runL pg f_ref_CheckWords_l1 ⟨[(2, LI vs), (3, .ptr false 0 0), (7, LI ns), (8, I (i : Int))], [[LN m.nodes, LP m.inits, LP m.nexts, LI m.bads, LI m.holds]], gh⟩ =
      if wordsF m.nodes (ns.drop i) (vs.drop i) = 0 then some (.normal, ⟨[], [], gh⟩) else some (.ret, ⟨[(6, I (wordsF m.nodes (ns.drop i) (vs.drop i)))], [], gh⟩)
  | 0, i, h => by
    rw [List.drop_eq_nil_of_le (by omega), wordsF, if_pos rfl]
    have hlt : ¬ i < vs.length := by omega
    refine (lp_exit (s1 := ?s1) (D_ref_CheckWords_b1_ok ?h1)).trans ?r1
    case h1 => simp [D_ref_CheckWords_b1, hlt]; rfl
    case r1 => simp [keep]
  | k + 1, i, h => by
    have hlt : i < ns.length := by omega
    have hlv : i < vs.length := by omega
    have hltI : (i : Int) < (vs.length : Int) := by omega
    have hltD : decide (i < vs.length) = true := decide_eq_true hlv
    have e2 : IntKind.i64.wrap ((i : Int) + 1) = ((i + 1 : Nat) : Int) := by rw [wrap_id (by omega) (by omega)]; omega
    have hg : (ns.map I)[i]? = some (I ns[i]) := by simp [List.getElem?_eq_getElem hlt]
    have hgv : (vs.map I)[i]? = some (I vs[i]) := by simp [List.getElem?_eq_getElem hlv]
    obtain ⟨hno, hw⟩ := hx _ (List.getElem_mem hlt)
    have hn := node_at hno
    have h0 := hno.1
    rw [List.drop_eq_getElem_cons hlt, List.drop_eq_getElem_cons hlv, wordsF]
    generalize ns[i] = a at *
    generalize vs[i] = v at *
    unfold wAt at *
    generalize hd : m.nodes.getD a.toNat default = d at *
    rw [nodeV_def d] at hn
    obtain ⟨W, hW⟩ := natOf (show 0 ≤ d.w by omega)
    rw [hW] at hn hw
    have hT := Two_eq (show W ≤ 61 by omega) gh
    have hp : 2 ^ W ≤ 256 := pow_lt (by omega)
    have hp0 : 1 ≤ 2 ^ W := Nat.one_le_two_pow
    have hw1 : IntKind.i64.wrap (((2 ^ W : Nat) : Int) - 1) = ((2 ^ W : Nat) : Int) - 1 := wrap_id (by omega) (by omega)
    have hB := between_eq v 0 (((2 ^ W : Nat) : Int) - 1) gh
    rw [show d.w.toNat = W by omega]
    generalize ((2 ^ W : Nat) : Int) = P at *
    by_cases hc : 0 ≤ v ∧ v < P
    · rw [decide_eq_true (show 0 ≤ v ∧ v ≤ P - 1 by omega)] at hB
      rw [if_pos hc]
      refine lp_next (s1 := ⟨[(2, LI vs), (3, .ptr false 0 0), (7, LI ns), (8, I ((i + 1 : Nat) : Int))], [[LN m.nodes, LP m.inits, LP m.nexts, LI m.bads, LI m.holds]], gh⟩) (D_ref_CheckWords_b1_ok ?_) (CWords_loop hx hl hv k (i + 1) (by omega))
      simp [D_ref_CheckWords_b1, hltD, hg, hgv, h0, hn, hT, hw1, hB, e2, -List.getElem?_map]
    · rw [decide_eq_false (show ¬ (0 ≤ v ∧ v ≤ P - 1) by omega)] at hB
      rw [if_neg hc, if_neg (by decide)]
      refine lp_ret (D_ref_CheckWords_b1_ok ?_)
      simp [D_ref_CheckWords_b1, hltD, hg, hgv, h0, hn, hT, hw1, hB, -List.getElem?_map]
theorem CheckWords_eq {kind : Int} {vs : List Int} (hm : m.nodes.length ≤ 1000) (hx : WdOk m.nodes (kindL m.nodes kind)) : callL pg 124 [modelV m, I kind, LI vs] gh = some (I (wordsE m.nodes (kindL m.nodes kind) vs), gh) := by
  have hN := RNodes_eq (m := m) (gh := gh) (kind := kind) (by omega)
  have hl : (kindL m.nodes kind).length ≤ 1000 := Nat.le_trans (kindF_len _ _ _) hm
  rw [modelV_def] at *
  unfold wordsE
  generalize kindL m.nodes kind = ns at *
  by_cases hv : vs.length = ns.length
  · rw [if_neg (by omega)]
    have h := CWords_loop (gh := gh) hx hl hv ns.length 0 (by omega)
    rw [List.drop_zero, List.drop_zero] at h
    simp only [Int.natCast_zero] at h
    have hk := D_ref_CheckWords_k1_ok (pg := pg) (gh := gh) rfl
    by_cases hz : wordsF m.nodes ns vs = 0
    · rw [if_pos hz] at h
      rw [hz]
      refine callL_fn (fn := f_ref_CheckWords) (s := ⟨[(6, I 0)], [], gh⟩) rfl rfl (D_ref_CheckWords_0_ok ?h1) ?r1
      case h1 => simp [D_ref_CheckWords_0, hN, hv, h, hk]
      case r1 => simp [finish, results, f_ref_CheckWords, resOfs, resOf, resOk]
    · rw [if_neg hz] at h
      generalize wordsF m.nodes ns vs = r at *
      refine callL_fn (fn := f_ref_CheckWords) (s := ⟨[(6, I r)], [], gh⟩) rfl rfl (D_ref_CheckWords_0_ok ?h2) ?r2
      case h2 => simp [D_ref_CheckWords_0, hN, hv, h]
      case r2 => simp [finish, results, f_ref_CheckWords, resOfs, resOf, resOk]
  · rw [if_pos hv]
    have hd : decide ((vs.length : Int) = (ns.length : Int)) = false := decide_eq_false (by omega)
    refine callL_fn (fn := f_ref_CheckWords) (s := ⟨[(6, I 2)], [], gh⟩) rfl rfl (D_ref_CheckWords_0_ok ?h3) ?r3
    case h3 => simp [D_ref_CheckWords_0, hN, hd]
    case r3 => simp [finish, results, f_ref_CheckWords, resOfs, resOf, resOk]
theorem nodes_zero {m : Md} (h : checkE m = 0) : nodesE m.nodes 0 m.nodes = 0 := by
  unfold checkE at h
  split at h
  · contradiction
  split at h
  · contradiction
  rename_i h2
  exact Classical.byContradiction h2
theorem node_zero {m : Md} (h : checkE m = 0) {i : Nat} {x : Nd} (hx : m.nodes[i]? = some x) : nodeE m.nodes i x = 0 := by
  have := nodesE_zero (nodes_zero h) i x hx
  rwa [Nat.zero_add] at this
theorem node_w {m : Md} (h : checkE m = 0) {i : Nat} {x : Nd} (hx : m.nodes[i]? = some x) : 1 ≤ x.w ∧ x.w ≤ 8 := by
  have h0 := node_zero h hx
  unfold nodeE at h0
  split at h0
  · omega
  split at h0
  · omega
  rename_i hw
  exact Classical.byContradiction hw
theorem wd_ok {m : Md} (h : checkE m = 0) {ns : List Int} (hn : ∀ a ∈ ns, isNo m.nodes a) : WdOk m.nodes ns := by
  intro a ha
  have hno := hn a ha
  refine ⟨hno, ?_⟩
  unfold wAt
  rw [List.getD_eq_getElem?_getD, List.getElem?_eq_getElem hno.2]
  exact node_w h (List.getElem?_eq_getElem hno.2)
theorem wd_kind {m : Md} (h : checkE m = 0) (kind : Int) : WdOk m.nodes (kindL m.nodes kind) := wd_ok h fun _ ha => kindL_no ha
def readyE (m : Md) (ss ks : List Int) : Int :=
  if checkE m ≠ 0 then checkE m else if wordsE m.nodes (kindL m.nodes 3) ss ≠ 0 then wordsE m.nodes (kindL m.nodes 3) ss else wordsE m.nodes (kindL m.nodes 2) ks
theorem ready_eq {ss ks : List Int} (h1 : Sz m.inits.length) (h2 : Sz m.nexts.length) : callL pg 138 [modelV m, LI ss, LI ks] gh = some (I (readyE m ss ks), gh) := by
  have hc := MCheck_eq (gh := gh) h1 h2
  have k2 := fun x => D_eval_ready_k2_ok (pg := pg) (gh := gh) (x7 := x) rfl
  unfold readyE
  by_cases h : checkE m = 0
  · rw [if_neg (by omega)]
    have hm := good_of h
    have hl := hm.len
    have o3 := Ofk_eq (m := m) (gh := gh) (kind := 3) (by omega)
    have o2 := Ofk_eq (m := m) (gh := gh) (kind := 2) (by omega)
    have l3 : (kindL m.nodes 3).length ≤ 1000 := Nat.le_trans (kindF_len _ _ _) (by omega)
    have l2 : (kindL m.nodes 2).length ≤ 1000 := Nat.le_trans (kindF_len _ _ _) (by omega)
    have w3 := Words_eq (gh := gh) (vs := ss) (wd_kind h 3) l3
    have w2 := Words_eq (gh := gh) (vs := ks) (wd_kind h 2) l2
    rw [h] at hc
    generalize kindL m.nodes 3 = K3 at *
    generalize kindL m.nodes 2 = K2 at *
    generalize wordsE m.nodes K3 ss = e3 at *
    generalize wordsE m.nodes K2 ks = e2 at *
    rw [modelV_def] at *
    by_cases h3 : e3 = 0
    · rw [if_neg (by omega)]
      have k1 : runL pg f_eval_ready_k1 ⟨[(2, LI ks), (3, .ptr false 0 0), (7, I 0)], [[LN m.nodes, LP m.inits, LP m.nexts, LI m.bads, LI m.holds]], gh⟩ = some (.ret, ⟨[(6, I e2)], [], gh⟩) := by
        refine D_eval_ready_k1_ok ?_
        simp [D_eval_ready_k1, o2, w2, k2]
      refine callL_fn (fn := f_eval_ready) (s := ⟨[(6, I e2)], [], gh⟩) rfl rfl (D_eval_ready_0_ok ?h1) ?r1
      case h1 => simp [D_eval_ready_0, hc, o3, w3, h3, k1]
      case r1 => simp [finish, results, f_eval_ready, resOfs, resOf, resOk]
    · rw [if_pos h3]
      have k1 : runL pg f_eval_ready_k1 ⟨[(2, LI ks), (3, .ptr false 0 0), (7, I e3)], [[LN m.nodes, LP m.inits, LP m.nexts, LI m.bads, LI m.holds]], gh⟩ = some (.ret, ⟨[(6, I e3)], [], gh⟩) := by
        refine D_eval_ready_k1_ok ?_
        simp [D_eval_ready_k1, h3, k2]
      refine callL_fn (fn := f_eval_ready) (s := ⟨[(6, I e3)], [], gh⟩) rfl rfl (D_eval_ready_0_ok ?h2) ?r2
      case h2 => simp [D_eval_ready_0, hc, o3, w3, k1]
      case r2 => simp [finish, results, f_eval_ready, resOfs, resOf, resOk]
  · rw [if_pos h]
    generalize checkE m = e at *
    rw [modelV_def] at *
    have k1 : runL pg f_eval_ready_k1 ⟨[(2, LI ks), (3, .ptr false 0 0), (7, I e)], [[LN m.nodes, LP m.inits, LP m.nexts, LI m.bads, LI m.holds]], gh⟩ = some (.ret, ⟨[(6, I e)], [], gh⟩) := by
      refine D_eval_ready_k1_ok ?_
      simp [D_eval_ready_k1, h, k2]
    refine callL_fn (fn := f_eval_ready) (s := ⟨[(6, I e)], [], gh⟩) rfl rfl (D_eval_ready_0_ok ?h3) ?r3
    case h3 => simp [D_eval_ready_0, hc, h, k1]
    case r3 => simp [finish, results, f_eval_ready, resOfs, resOf, resOk]
theorem Ready_eq {ss ks : List Int} (h1 : Sz m.inits.length) (h2 : Sz m.nexts.length) : callL pg 131 [modelV m, LI ss, LI ks] gh = some (I (readyE m ss ks), gh) := by
  have hc := CheckModel_eq (m := m) (gh := gh) h1 h2
  have k2 := fun x => D_ref_Ready_k2_ok (pg := pg) (gh := gh) (x7 := x) rfl
  unfold readyE
  by_cases h : checkE m = 0
  · rw [if_neg (by omega)]
    have hm := good_of h
    have hl := hm.len
    have w3 := CheckWords_eq (gh := gh) (vs := ss) (by omega) (wd_kind h 3)
    have w2 := CheckWords_eq (gh := gh) (vs := ks) (by omega) (wd_kind h 2)
    rw [h] at hc
    generalize kindL m.nodes 3 = K3 at *
    generalize kindL m.nodes 2 = K2 at *
    generalize wordsE m.nodes K3 ss = e3 at *
    generalize wordsE m.nodes K2 ks = e2 at *
    rw [modelV_def] at *
    by_cases h3 : e3 = 0
    · rw [if_neg (by omega)]
      have k1 : runL pg f_ref_Ready_k1 ⟨[(2, LI ks), (3, .ptr false 0 0), (7, I 0)], [[LN m.nodes, LP m.inits, LP m.nexts, LI m.bads, LI m.holds]], gh⟩ = some (.ret, ⟨[(6, I e2)], [], gh⟩) := by
        refine D_ref_Ready_k1_ok ?_
        simp [D_ref_Ready_k1, w2, k2]
      refine callL_fn (fn := f_ref_Ready) (s := ⟨[(6, I e2)], [], gh⟩) rfl rfl (D_ref_Ready_0_ok ?h1) ?r1
      case h1 => simp [D_ref_Ready_0, hc, w3, h3, k1]
      case r1 => simp [finish, results, f_ref_Ready, resOfs, resOf, resOk]
    · rw [if_pos h3]
      have k1 : runL pg f_ref_Ready_k1 ⟨[(2, LI ks), (3, .ptr false 0 0), (7, I e3)], [[LN m.nodes, LP m.inits, LP m.nexts, LI m.bads, LI m.holds]], gh⟩ = some (.ret, ⟨[(6, I e3)], [], gh⟩) := by
        refine D_ref_Ready_k1_ok ?_
        simp [D_ref_Ready_k1, h3, k2]
      refine callL_fn (fn := f_ref_Ready) (s := ⟨[(6, I e3)], [], gh⟩) rfl rfl (D_ref_Ready_0_ok ?h2) ?r2
      case h2 => simp [D_ref_Ready_0, hc, w3, k1]
      case r2 => simp [finish, results, f_ref_Ready, resOfs, resOf, resOk]
  · rw [if_pos h]
    generalize checkE m = e at *
    rw [modelV_def] at *
    have k1 : runL pg f_ref_Ready_k1 ⟨[(2, LI ks), (3, .ptr false 0 0), (7, I e)], [[LN m.nodes, LP m.inits, LP m.nexts, LI m.bads, LI m.holds]], gh⟩ = some (.ret, ⟨[(6, I e)], [], gh⟩) := by
      refine D_ref_Ready_k1_ok ?_
      simp [D_ref_Ready_k1, h, k2]
    refine callL_fn (fn := f_ref_Ready) (s := ⟨[(6, I e)], [], gh⟩) rfl rfl (D_ref_Ready_0_ok ?h3) ?r3
    case h3 => simp [D_ref_Ready_0, hc, h, k1]
    case r3 => simp [finish, results, f_ref_Ready, resOfs, resOf, resOk]
theorem zeros_eq {vs : List Int} (h : vs.length * 8 ≤ maxBytes) : callL pg 142 [LI vs] gh = some (LI (List.replicate vs.length 0), gh) := by
  have e : ∀ n : Nat, List.map I (List.replicate n 0) = List.replicate n (I 0) := fun n => List.map_replicate
  simp only [LI, e]
  have hn : noGs (List.replicate vs.length (PV.int IntKind.i64 0)) = true := by
    have := noGs_ints (List.replicate vs.length 0)
    rwa [e] at this
  have hI : decide ((vs.length : Int) * 8 ≤ (maxBytes : Int)) = true := decide_eq_true (by omega)
  refine callL_fn (fn := f_eval_zeros) (s := ?s1) rfl rfl (D_eval_zeros_0_ok ?h1) ?r1
  case h1 => simp [D_eval_zeros_0, mkOk, hI, isFlat]; rfl
  case r1 => simp [finish, results, f_eval_zeros, resOfs, resOf, resOk, hn]
end
end Go.Lw
end

/-! Values of a model: what they are, and that they are words. -/
section
namespace Go.Lw
open Go
def valX (L : List Nd) (acc : List Int) (x : Nd) : Int :=
  rawOf x.k x.w (acc.getD x.a.toNat 0) (acc.getD x.b.toNat 0) (acc.getD x.c.toNat 0) x.n (wdJ L x.k 0 x.a) (wdJ L x.k 1 x.b)
def valF (L : List Nd) : List Int → List Int → List Int → List Nd → List Int
  | acc, _, _, [] => acc
  | acc, ss, ks, x :: l =>
    if x.k = 1 then valF L (acc ++ [x.n]) ss ks l else if x.k = 3 then valF L (acc ++ [ss.headD 0]) ss.tail ks l
    else if x.k = 2 then valF L (acc ++ [ks.headD 0]) ss ks.tail l else valF L (acc ++ [valX L acc x]) ss ks l
def InW (L : List Nd) (acc : List Int) : Prop := ∀ j : Nat, j < acc.length → 0 ≤ acc.getD j 0 ∧ acc.getD j 0 < ((2 ^ (wAt L j).toNat : Nat) : Int)
structure VGood (L : List Nd) (i : Nat) (acc ss ks : List Int) : Prop where
  len : acc.length = i
  inw : InW L acc
  sl : ss.length = (kindF 3 i (L.drop i)).length
  sw : wordsF L (kindF 3 i (L.drop i)) ss = 0
  kl : ks.length = (kindF 2 i (L.drop i)).length
  kw : wordsF L (kindF 2 i (L.drop i)) ks = 0
theorem wordsF_cons {L : List Nd} {a : Int} {ns vs : List Int} (hl : vs.length = (a :: ns).length) (h : wordsF L (a :: ns) vs = 0) :
    ∃ v vs', vs = v :: vs' ∧ 0 ≤ v ∧ v < ((2 ^ (wAt L a).toNat : Nat) : Int) ∧ vs'.length = ns.length ∧ wordsF L ns vs' = 0 := by
  cases vs with
  | nil => simp at hl
  | cons v vs' =>
    rw [wordsF] at h
    split at h
    · rename_i hc
      exact ⟨v, vs', rfl, hc.1, hc.2, by simpa using hl, h⟩
    · cases h
theorem wAt_of {L : List Nd} {i : Nat} {x : Nd} (hx : L[i]? = some x) : wAt L (i : Int) = x.w := by
  unfold wAt
  rw [List.getD_eq_getElem?_getD, Int.toNat_natCast, hx]; rfl
theorem InW.push {L : List Nd} {acc : List Int} {i : Nat} {x : Nd} {v : Int} (h : InW L acc) (hi : acc.length = i) (hx : L[i]? = some x) (h0 : 0 ≤ v) (h1 : v < ((2 ^ x.w.toNat : Nat) : Int)) : InW L (acc ++ [v]) := by
  intro j hj
  rw [List.length_append, List.length_singleton] at hj
  by_cases he : j < acc.length
  · have e : (acc ++ [v]).getD j 0 = acc.getD j 0 := by simp [List.getD_eq_getElem?_getD, List.getElem?_append_left he]
    rw [e]; exact h j he
  · have ej : j = i := by omega
    subst ej
    have e : (acc ++ [v]).getD j 0 = v := by simp [List.getD_eq_getElem?_getD, ← hi]
    rw [e, wAt_of hx]
    exact ⟨h0, h1⟩
section
variable {L : List Nd} {i : Nat} {acc ss ks : List Int} {x : Nd}
theorem VGood.other (h : VGood L i acc ss ks) (hx : L[i]? = some x) (h3 : x.k ≠ 3) (h2 : x.k ≠ 2) {v : Int} (v0 : 0 ≤ v) (v1 : v < ((2 ^ x.w.toNat : Nat) : Int)) : VGood L (i + 1) (acc ++ [v]) ss ks := by
  obtain ⟨hlt, rfl⟩ := List.getElem?_eq_some_iff.1 hx
  obtain ⟨e1, e2, e3, e4, e5, e6⟩ := h
  rw [List.drop_eq_getElem_cons hlt, kindF, if_neg h3] at e3 e4
  rw [List.drop_eq_getElem_cons hlt, kindF, if_neg h2] at e5 e6
  exact ⟨by simp [e1], e2.push e1 hx v0 v1, e3, e4, e5, e6⟩
theorem VGood.state (h : VGood L i acc ss ks) (hx : L[i]? = some x) (h3 : x.k = 3) : ∃ v ss', ss = v :: ss' ∧ VGood L (i + 1) (acc ++ [v]) ss' ks := by
  obtain ⟨hlt, rfl⟩ := List.getElem?_eq_some_iff.1 hx
  obtain ⟨e1, e2, e3, e4, e5, e6⟩ := h
  rw [List.drop_eq_getElem_cons hlt, kindF, if_pos h3] at e3 e4
  rw [List.drop_eq_getElem_cons hlt, kindF, if_neg (by omega)] at e5 e6
  obtain ⟨v, ss', rfl, v0, v1, hl, hw⟩ := wordsF_cons e3 e4
  rw [wAt_of hx] at v1
  exact ⟨v, ss', rfl, by simp [e1], e2.push e1 hx v0 v1, hl, hw, e5, e6⟩
theorem VGood.input (h : VGood L i acc ss ks) (hx : L[i]? = some x) (h2 : x.k = 2) : ∃ v ks', ks = v :: ks' ∧ VGood L (i + 1) (acc ++ [v]) ss ks' := by
  obtain ⟨hlt, rfl⟩ := List.getElem?_eq_some_iff.1 hx
  obtain ⟨e1, e2, e3, e4, e5, e6⟩ := h
  rw [List.drop_eq_getElem_cons hlt, kindF, if_neg (by omega)] at e3 e4
  rw [List.drop_eq_getElem_cons hlt, kindF, if_pos h2] at e5 e6
  obtain ⟨v, ks', rfl, v0, v1, hl, hw⟩ := wordsF_cons e5 e6
  rw [wAt_of hx] at v1
  exact ⟨v, ks', rfl, by simp [e1], e2.push e1 hx v0 v1, e3, e4, hl, hw⟩
structure OpOk (L : List Nd) (i : Nat) (x : Nd) : Prop where
  fit : fitE x.k x.w x.n (wdJ L x.k 0 x.a) (wdJ L x.k 1 x.b) (wdJ L x.k 2 x.c) = 0
  a : 0 ≤ x.a ∧ x.a < i
  b : 0 ≤ x.b ∧ x.b < i
  c : 0 ≤ x.c ∧ x.c < i
  inn : ArgsIn L x
theorem op_ok (hx : L[i]? = some x) (hn : nodeE L i x = 0) (hk : ¬ x.k ≤ 3) : OpOk L i x := by
  unfold nodeE at hn
  split at hn
  · omega
  split at hn
  · omega
  split at hn
  · omega
  rename_i hb
  have hi : i ≤ L.length := Nat.le_of_lt (List.getElem?_eq_some_iff.1 hx).1
  have hin := args_in hi hb
  have hk' := (fitE_zero hn).1
  have ht := takes_pos hk'
  unfold badArgs badJ at hb
  simp only [not_or] at hb
  obtain ⟨b0, b1, b2⟩ := hb
  rw [if_pos ht] at b0
  refine ⟨hn, by omega, ?_, ?_, hin⟩
  · split at b1 <;> omega
  · split at b2 <;> omega
theorem const_ok (hn : nodeE L i x = 0) (hk : x.k = 1) : 0 ≤ x.n ∧ x.n < ((2 ^ x.w.toNat : Nat) : Int) := by
  unfold nodeE at hn
  split at hn
  · omega
  split at hn
  · omega
  rw [if_pos (by omega)] at hn
  split at hn
  · omega
  rename_i h
  exact Classical.byContradiction fun h2 => h ⟨hk, h2⟩
theorem raw_word {k w a b c n w0 w1 : Int} (hw : 1 ≤ w ∧ w ≤ 8) : 0 ≤ rawOf k w a b c n w0 w1 ∧ rawOf k w a b c n w0 w1 < ((2 ^ w.toNat : Nat) : Int) := by
  obtain ⟨W, rfl⟩ := natOf (show 0 ≤ w by omega)
  rw [raw_emod k a b c n w0 w1 (by omega), Int.toNat_natCast]
  have : (0 : Int) < ((2 ^ W : Nat) : Int) := Int.natCast_pos.2 (Nat.two_pow_pos W)
  exact ⟨Int.emod_nonneg _ (by omega), Int.emod_lt_of_pos _ this⟩
theorem VGood.op (h : VGood L i acc ss ks) (hx : L[i]? = some x) (h3 : x.k ≠ 3) (h2 : x.k ≠ 2) (ho : OpOk L i x) : VGood L (i + 1) (acc ++ [valX L acc x]) ss ks :=
  have hw := raw_word (k := x.k) (a := acc.getD x.a.toNat 0) (b := acc.getD x.b.toNat 0) (c := acc.getD x.c.toNat 0) (n := x.n) (w0 := wdJ L x.k 0 x.a) (w1 := wdJ L x.k 1 x.b) (fitE_zero ho.fit).2.1
  h.other hx h3 h2 hw.1 hw.2
theorem val_at (h : VGood L i acc ss ks) {a : Int} (ha : 0 ≤ a ∧ a < i) : 0 ≤ acc.getD a.toNat 0 ∧ acc.getD a.toNat 0 < ((2 ^ (wAt L a).toNat : Nat) : Int) := by
  have := h.inw a.toNat (by rw [h.len]; omega)
  rwa [show ((a.toNat : Nat) : Int) = a by omega] at this
theorem Made_gen {k width a b c n w0 w1 w2 : Int} (he : fitE k width n w0 w1 w2 = 0) (h0 : 0 ≤ a ∧ a < ((2 ^ w0.toNat : Nat) : Int)) (hb : 0 ≤ b) (h1 : 1 < takesOf k → b < ((2 ^ w1.toNat : Nat) : Int)) (hc : 0 ≤ c) (h2 : 2 < takesOf k → c < ((2 ^ w2.toNat : Nat) : Int)) (gh : List GObj) :
    callL pg 28 [I k, I width, I a, I b, I c, I n, .agg [I w0, I w1, I w2]] gh = some (I (rawOf k width a b c n w0 w1), gh) := by
  obtain ⟨hk, hw, g0, g1, g2, s, hs, hf⟩ := fitE_zero he
  have ht := takes_pos hk
  unfold wOk at g0 g1 g2
  rw [if_pos ht] at g0
  have hn : 0 ≤ n := by
    unfold fitsOf at hf
    by_cases h6 : s = 6
    · simp [h6] at hf; omega
    · by_cases hn : n = 0
      · omega
      · simp [h6, hn] at hf
  have hw1 : 0 ≤ w1 := by split at g1 <;> omega
  have hw2 : 0 ≤ w2 := by split at g2 <;> omega
  obtain ⟨W, rfl⟩ := natOf (show 0 ≤ width by omega)
  obtain ⟨A, rfl⟩ := natOf h0.1
  obtain ⟨B, rfl⟩ := natOf hb
  obtain ⟨C, rfl⟩ := natOf hc
  obtain ⟨N, rfl⟩ := natOf hn
  obtain ⟨W0, rfl⟩ := natOf (show 0 ≤ w0 by omega)
  obtain ⟨W1, rfl⟩ := natOf hw1
  obtain ⟨W2, rfl⟩ := natOf hw2
  rw [Int.toNat_natCast] at h0 h1 h2
  have hd := Made_D (gh := gh) (A := A) (B := B) (C := C) hk hs hf (by omega) (by omega) (fun h => by rw [if_pos h] at g1; omega) (by omega) (fun h => by have := h1 h; omega) (fun h => by have := h2 h; omega)
  refine callL_fn (fn := f_ref_Made) rfl rfl (D_ref_Made_0_ok hd) ?r1
  simp [finish, results, f_ref_Made, resOfs, resOf, resOk]
theorem Made_val (h : VGood L i acc ss ks) (ho : OpOk L i x) (gh : List GObj) :
    callL pg 28 [I x.k, I x.w, I (acc.getD x.a.toNat 0), I (acc.getD x.b.toNat 0), I (acc.getD x.c.toNat 0), I x.n, widthsV L x] gh = some (I (valX L acc x), gh) := by
  have ht := takes_pos (fitE_zero ho.fit).1
  have va := val_at h ho.a
  have vb := val_at h ho.b
  have vc := val_at h ho.c
  refine Made_gen ho.fit ⟨va.1, ?_⟩ vb.1 (fun h1 => ?_) vc.1 (fun h2 => ?_) gh
  · rw [show wdJ L x.k 0 x.a = wAt L x.a from if_pos ht]; exact va.2
  · rw [show wdJ L x.k 1 x.b = wAt L x.b from if_pos h1]; exact vb.2
  · rw [show wdJ L x.k 2 x.c = wAt L x.c from if_pos h2]; exact vc.2
theorem Raw_val (h : VGood L i acc ss ks) (ho : OpOk L i x) (gh : List GObj) :
    callL pg 66 [I x.k, I x.w, I (acc.getD x.a.toNat 0), I (acc.getD x.b.toNat 0), I (acc.getD x.c.toNat 0), I x.n, widthsV L x] gh = some (I (valX L acc x), gh) := by
  obtain ⟨hk, hw, g0, g1, g2, s, hs, hf⟩ := fitE_zero ho.fit
  have ht := takes_pos hk
  unfold wOk at g0 g1 g2
  rw [if_pos ht] at g0
  refine Raw_eq _ _ _ _ _ _ _ _ _ hk (val_at h ho.b).1 (fun h21 => ?_) g0 (fun h1 => ?_) (by omega) gh
  · unfold fitsOf at hf
    by_cases h6 : s = 6
    · simp [h6] at hf; omega
    · by_cases hn : x.n = 0
      · omega
      · simp [h6, hn] at hf
  · have : 1 < takesOf x.k := by rcases h1 with h | h <;> rw [h] <;> decide
    rwa [if_pos this] at g1
theorem good_start {m : Md} {ss ks : List Int} (hs : wordsE m.nodes (kindL m.nodes 3) ss = 0) (hk : wordsE m.nodes (kindL m.nodes 2) ks = 0) : VGood m.nodes 0 [] ss ks := by
  unfold wordsE at hs hk
  split at hs
  · cases hs
  split at hk
  · cases hk
  exact ⟨rfl, fun j hj => by simp at hj, by rw [List.drop_zero]; rename_i h _; exact Classical.byContradiction h, by rw [List.drop_zero]; exact hs, by rw [List.drop_zero]; rename_i _ h; exact Classical.byContradiction h, by rw [List.drop_zero]; exact hk⟩
theorem valF_len : ∀ {l : List Nd} {acc ss ks : List Int}, (valF L acc ss ks l).length = acc.length + l.length
  | [], _, _, _ => rfl
  | x :: l, acc, ss, ks => by
    rw [valF]
    repeat' split
    all_goals rw [valF_len]; simp; omega
end
end Go.Lw
end

/-! Values of a model: the program's way and the document's come to them. -/
section
namespace Go.Lw
open Go
def outL (N : Nat) (acc : List Int) : List Int := acc ++ List.replicate (N - acc.length) 0
theorem outL_len {N : Nat} {acc : List Int} (h : acc.length ≤ N) : (outL N acc).length = N := by
  simp [outL]; omega
theorem outL_get {N : Nat} {acc : List Int} {a : Nat} (h : a < acc.length) : (outL N acc)[a]? = some (acc.getD a 0) := by
  unfold outL
  rw [List.getElem?_append_left h, List.getD_eq_getElem?_getD, List.getElem?_eq_getElem h]; rfl
theorem outL_set {N : Nat} {acc : List Int} {v : Int} (h : acc.length < N) : (outL N acc).set acc.length v = outL N (acc ++ [v]) := by
  unfold outL
  rw [List.set_append_right _ _ (Nat.le_refl _), Nat.sub_self, List.length_append, List.length_singleton]
  obtain ⟨k, hk⟩ : ∃ k, N - acc.length = k + 1 := ⟨N - acc.length - 1, by omega⟩
  rw [hk, show N - (acc.length + 1) = k by omega, List.replicate_succ, List.set_cons_zero]
  simp
theorem outL_full {N : Nat} {acc : List Int} (h : acc.length = N) : outL N acc = acc := by simp [outL, h]
theorem splice_set {l : List PV} {i : Nat} {v : PV} (h : i < l.length) : spliceAt l i [v] = l.set i v := by
  unfold spliceAt
  rw [List.set_eq_take_append_cons_drop, if_pos h]; simp
def rawG (gh : List GObj) (o : List Int) : List GObj := gh ++ [.cells (o.map I), .cells [.bs true gh.length 0 o.length 1]]
section
variable {m : Md} {gh : List GObj}
theorem rawG_0 (o : List Int) : (rawG gh o)[gh.length]? = some (.cells (o.map I)) := by simp [rawG]
theorem rawG_1 (o : List Int) : (rawG gh o)[gh.length + 1]? = some (.cells [.bs true gh.length 0 o.length 1]) := by simp [rawG]
theorem rawG_set {o o2 : List Int} (h : o2.length = o.length) : (rawG gh o).set gh.length (.cells (o2.map I)) = rawG gh o2 := by
  simp [rawG, h]
theorem Raw1_eq {G : List GObj} {b : Nat} {o : List Int} {a : Int} {v : Int} (h1 : G[b + 1]? = some (.cells [.bs true b 0 o.length 1])) (h0 : G[b]? = some (.cells (o.map I))) (ha : 0 ≤ a ∧ a.toNat < o.length) (hv : o[a.toNat]? = some v) :
    callL pg 143 [I a, .ptr true (b + 1) 0] G = some (I v, G) := by
  have hg : (o.map I)[a.toNat]? = some (I v) := by simp [hv]
  have hl : (o.map I).length = o.length := by simp
  have hlt : a < (o.length : Int) := by omega
  obtain ⟨e0, e1⟩ := ha
  generalize o.map I = O at *
  generalize o.length = n at *
  refine callL_fn (fn := f_eval_Raw_1) (s := ⟨[(3, I v)], [], G⟩) rfl rfl (D_eval_Raw_1_0_ok ?h1) ?r1
  case h1 => simp [D_eval_Raw_1_0, h1, h0, hg, e0, e1, hlt]
  case r1 => simp [finish, results, f_eval_Raw_1, resOfs, resOf, resOk]
def rwSt (m : Md) (ss ks o : List Int) (i : Nat) (gh : List GObj) : St :=
  ⟨[(1, LI ss), (2, LI ks), (3, .ptr false 0 0), (7, .ptr true (gh.length + 1) 0), (8, .fn 143 [.ptr true (gh.length + 1) 0]), (17, LN m.nodes), (18, I m.nodes.length), (19, I (i : Int))], [[LN m.nodes, LP m.inits, LP m.nexts, LI m.bads, LI m.holds]], rawG gh o⟩
theorem Raw_k1 {ss ks : List PV} {i : Nat} (hi : i ≤ 1000) {G : List GObj} {b : Nat} : runL pg f_eval_Raw_k1 ⟨[(1, .sl false 1 ss), (2, .sl false 1 ks), (3, .ptr false 0 0), (7, .ptr true (b + 1) 0), (8, .fn 143 [.ptr true (b + 1) 0]), (17, LN m.nodes), (18, I m.nodes.length), (19, I (i : Int))], [[LN m.nodes, LP m.inits, LP m.nexts, LI m.bads, LI m.holds]], G⟩ =
    some (.normal, ⟨[(1, .sl false 1 ss), (2, .sl false 1 ks), (3, .ptr false 0 0), (7, .ptr true (b + 1) 0), (8, .fn 143 [.ptr true (b + 1) 0]), (17, LN m.nodes), (18, I m.nodes.length), (19, I ((i + 1 : Nat) : Int))], [[LN m.nodes, LP m.inits, LP m.nexts, LI m.bads, LI m.holds]], G⟩) := by
  have e2 : IntKind.i64.wrap ((i : Int) + 1) = ((i + 1 : Nat) : Int) := by rw [wrap_id (by omega) (by omega)]; omega
  refine D_eval_Raw_k1_ok ?_
  simp [D_eval_Raw_k1, e2]
theorem nd_idx {R : Type} {l : List Nd} {i : Nat} {e : PV} (hx : (l.map nodeV)[i]? = some e) (f : PV → Option R) : idX 6 none (degr (LN l)) (i : Int) f = f (.ep e 0) := by simp [hx, -List.getElem?_map]
theorem nd_ld {R : Type} {a b c d e f : PV} (L : List (List PV)) (G : List GObj) (k : PV → Option R) : ldX L G true 6 (degr (.ep (.agg [a, b, c, d, e, f]) 0)) k = k (.agg [a, b, c, d, e, f]) := by simp
theorem Raw_s1 {b i ol : Nat} {G G2 : List GObj} {O S K : List PV} {v : Int} {x : Nd} (hltI : (i : Int) < (m.nodes.length : Int)) (hi : i ≤ 1000) (hx : (m.nodes.map nodeV)[i]? = some (.agg [I x.k, I x.w, I x.a, I x.b, I x.c, I x.n])) (hG1 : G[b + 1]? = some (.cells [.bs true b 0 ol 1])) (hG0 : G[b]? = some (.cells O)) (hoi : i < ol) (hml : O.length = ol) (hset : G.set b (.cells (spliceAt O i [I v])) = G2) (hv : v = x.n) (d1 : decide (x.k = 1) = true) :
    D_eval_Raw_b1 pg (.sl false 1 (S)) (.sl false 1 (K)) (b + 1) 0 (.fn 143 [.ptr true (b + 1) 0]) (LN m.nodes) m.nodes.length i (LN m.nodes) (LP m.inits) (LP m.nexts) (LI m.bads) (LI m.holds) G =
      some (.normal, ⟨[(1, .sl false 1 S), (2, .sl false 1 K), (3, .ptr false 0 0), (7, .ptr true (b + 1) 0), (8, .fn 143 [.ptr true (b + 1) 0]), (17, LN m.nodes), (18, I m.nodes.length), (19, I ((i + 1 : Nat) : Int))], [[LN m.nodes, LP m.inits, LP m.nexts, LI m.bads, LI m.holds]], G2⟩) := by
  have hil : (i : Int) < (ol : Int) := by omega
  have hoi2 : i + 1 ≤ ol := by omega
  have hk1 := Raw_k1 (m := m) (ss := S) (ks := K) hi (G := G2) (b := b)
  subst hv
  rw [D_eval_Raw_b1, decide_eq_true hltI, br_true, nd_idx hx, nd_ld, unA_6]
  simp [d1, hG1, hG0, hil, hoi2, hml, hset, hk1, -List.getElem?_map]
theorem Raw_s3 {b i ol : Nat} {G G2 : List GObj} {O S K : List PV} {v : Int} {x : Nd} (hltI : (i : Int) < (m.nodes.length : Int)) (hi : i ≤ 1000) (hx : (m.nodes.map nodeV)[i]? = some (.agg [I x.k, I x.w, I x.a, I x.b, I x.c, I x.n])) (hG1 : G[b + 1]? = some (.cells [.bs true b 0 ol 1])) (hG0 : G[b]? = some (.cells O)) (hoi : i < ol) (hml : O.length = ol) (hset : G.set b (.cells (spliceAt O i [I v])) = G2) (d1 : decide (x.k = 1) = false) (d3 : decide (x.k = 3) = true) :
    D_eval_Raw_b1 pg (.sl false 1 (I v :: S)) (.sl false 1 (K)) (b + 1) 0 (.fn 143 [.ptr true (b + 1) 0]) (LN m.nodes) m.nodes.length i (LN m.nodes) (LP m.inits) (LP m.nexts) (LI m.bads) (LI m.holds) G =
      some (.normal, ⟨[(1, .sl false 1 S), (2, .sl false 1 K), (3, .ptr false 0 0), (7, .ptr true (b + 1) 0), (8, .fn 143 [.ptr true (b + 1) 0]), (17, LN m.nodes), (18, I m.nodes.length), (19, I ((i + 1 : Nat) : Int))], [[LN m.nodes, LP m.inits, LP m.nexts, LI m.bads, LI m.holds]], G2⟩) := by
  have hil : (i : Int) < (ol : Int) := by omega
  have hoi2 : i + 1 ≤ ol := by omega
  have hk1 := Raw_k1 (m := m) (ss := S) (ks := K) hi (G := G2) (b := b)
  rw [D_eval_Raw_b1, decide_eq_true hltI, br_true, nd_idx hx, nd_ld, unA_6]
  simp [d1, d3, hG1, hG0, hil, hoi2, hml, hset, hk1, -List.getElem?_map]
theorem Raw_s2 {b i ol : Nat} {G G2 : List GObj} {O S K : List PV} {v : Int} {x : Nd} (hltI : (i : Int) < (m.nodes.length : Int)) (hi : i ≤ 1000) (hx : (m.nodes.map nodeV)[i]? = some (.agg [I x.k, I x.w, I x.a, I x.b, I x.c, I x.n])) (hG1 : G[b + 1]? = some (.cells [.bs true b 0 ol 1])) (hG0 : G[b]? = some (.cells O)) (hoi : i < ol) (hml : O.length = ol) (hset : G.set b (.cells (spliceAt O i [I v])) = G2) (d1 : decide (x.k = 1) = false) (d3 : decide (x.k = 3) = false) (d2 : decide (x.k = 2) = true) :
    D_eval_Raw_b1 pg (.sl false 1 (S)) (.sl false 1 (I v :: K)) (b + 1) 0 (.fn 143 [.ptr true (b + 1) 0]) (LN m.nodes) m.nodes.length i (LN m.nodes) (LP m.inits) (LP m.nexts) (LI m.bads) (LI m.holds) G =
      some (.normal, ⟨[(1, .sl false 1 S), (2, .sl false 1 K), (3, .ptr false 0 0), (7, .ptr true (b + 1) 0), (8, .fn 143 [.ptr true (b + 1) 0]), (17, LN m.nodes), (18, I m.nodes.length), (19, I ((i + 1 : Nat) : Int))], [[LN m.nodes, LP m.inits, LP m.nexts, LI m.bads, LI m.holds]], G2⟩) := by
  have hil : (i : Int) < (ol : Int) := by omega
  have hoi2 : i + 1 ≤ ol := by omega
  have hk1 := Raw_k1 (m := m) (ss := S) (ks := K) hi (G := G2) (b := b)
  rw [D_eval_Raw_b1, decide_eq_true hltI, br_true, nd_idx hx, nd_ld, unA_6]
  simp [d1, d2, d3, hG1, hG0, hil, hoi2, hml, hset, hk1, -List.getElem?_map]
theorem Raw_s0 {b i ol : Nat} {G G2 : List GObj} {O S K : List PV} {v : Int} {x : Nd} (hltI : (i : Int) < (m.nodes.length : Int)) (hi : i ≤ 1000) (hx : (m.nodes.map nodeV)[i]? = some (.agg [I x.k, I x.w, I x.a, I x.b, I x.c, I x.n])) (hG1 : G[b + 1]? = some (.cells [.bs true b 0 ol 1])) (hG0 : G[b]? = some (.cells O)) (hoi : i < ol) (hml : O.length = ol) (hset : G.set b (.cells (spliceAt O i [I v])) = G2) {ya yb yc w0 w1 w2 : Int} (d1 : decide (x.k = 1) = false) (d3 : decide (x.k = 3) = false) (d2 : decide (x.k = 2) = false)
    (ca : callL pg 143 [I x.a, .ptr true (b + 1) 0] G = some (I ya, G)) (cb : callL pg 143 [I x.b, .ptr true (b + 1) 0] G = some (I yb, G)) (cc : callL pg 143 [I x.c, .ptr true (b + 1) 0] G = some (I yc, G))
    (hW : callL pg 104 [LN m.nodes, .agg [I x.k, I x.w, I x.a, I x.b, I x.c, I x.n]] G = some (.agg [I w0, I w1, I w2], G)) (hR : callL pg 66 [I x.k, I x.w, I ya, I yb, I yc, I x.n, .agg [I w0, I w1, I w2]] G = some (I v, G)) :
    D_eval_Raw_b1 pg (.sl false 1 (S)) (.sl false 1 (K)) (b + 1) 0 (.fn 143 [.ptr true (b + 1) 0]) (LN m.nodes) m.nodes.length i (LN m.nodes) (LP m.inits) (LP m.nexts) (LI m.bads) (LI m.holds) G =
      some (.normal, ⟨[(1, .sl false 1 S), (2, .sl false 1 K), (3, .ptr false 0 0), (7, .ptr true (b + 1) 0), (8, .fn 143 [.ptr true (b + 1) 0]), (17, LN m.nodes), (18, I m.nodes.length), (19, I ((i + 1 : Nat) : Int))], [[LN m.nodes, LP m.inits, LP m.nexts, LI m.bads, LI m.holds]], G2⟩) := by
  have hil : (i : Int) < (ol : Int) := by omega
  have hoi2 : i + 1 ≤ ol := by omega
  have hk1 := Raw_k1 (m := m) (ss := S) (ks := K) hi (G := G2) (b := b)
  rw [D_eval_Raw_b1, decide_eq_true hltI, br_true, nd_idx hx, nd_ld, unA_6]
  simp [d1, d2, d3, hG1, hG0, ca, cb, cc, hW, hR, hil, hoi2, hml, hset, hk1, -List.getElem?_map]
theorem Raw_step (hl : m.nodes.length ≤ 80) (hz : ∀ (j : Nat) (x : Nd), m.nodes[j]? = some x → nodeE m.nodes j x = 0) {i : Nat} {acc ss ks : List Int} (hlt : i < m.nodes.length) (hg : VGood m.nodes i acc ss ks) :
    ∃ v ss' ks', VGood m.nodes (i + 1) (acc ++ [v]) ss' ks' ∧ valF m.nodes acc ss ks (m.nodes.drop i) = valF m.nodes (acc ++ [v]) ss' ks' (m.nodes.drop (i + 1)) ∧
      D_eval_Raw_b1 pg (LI ss) (LI ks) (gh.length + 1) 0 (.fn 143 [.ptr true (gh.length + 1) 0]) (LN m.nodes) m.nodes.length i (LN m.nodes) (LP m.inits) (LP m.nexts) (LI m.bads) (LI m.holds) (rawG gh (outL m.nodes.length acc)) =
        some (.normal, rwSt m ss' ks' (outL m.nodes.length (acc ++ [v])) (i + 1) gh) := by
  have hltI : (i : Int) < (m.nodes.length : Int) := by omega
  have hx0 : m.nodes[i]? = some m.nodes[i] := List.getElem?_eq_getElem hlt
  have hx : (m.nodes.map nodeV)[i]? = some (nodeV m.nodes[i]) := by simp [hx0]
  have hn := hz i _ hx0
  have hlen := hg.len
  rw [List.drop_eq_getElem_cons hlt, valF]
  generalize m.nodes[i] = x at *
  rw [nodeV_def x] at hx
  have hol : (outL m.nodes.length acc).length = m.nodes.length := outL_len (by omega)
  have hoi : i < (outL m.nodes.length acc).length := by omega
  have hG0 := rawG_0 (gh := gh) (outL m.nodes.length acc)
  have hG1 := rawG_1 (gh := gh) (outL m.nodes.length acc)
  have hset : ∀ v : Int, (rawG gh (outL m.nodes.length acc)).set gh.length (.cells (spliceAt ((outL m.nodes.length acc).map I) i [I v])) = rawG gh (outL m.nodes.length (acc ++ [v])) := fun v => by
    have e : ((outL m.nodes.length acc).map I).set i (I v) = ((outL m.nodes.length acc).set i v).map I := by rw [List.map_set]
    have hlv : (outL m.nodes.length (acc ++ [v])).length = (outL m.nodes.length acc).length := by rw [outL_len (by simp; omega), hol]
    rw [splice_set (by simpa using hoi), e, ← hlen, outL_set (by omega), rawG_set hlv]
  have hml : ((outL m.nodes.length acc).map I).length = (outL m.nodes.length acc).length := by simp
  by_cases h1 : x.k = 1
  · rw [if_pos h1]
    have hc := const_ok hn h1
    exact ⟨_, _, _, hg.other hx0 (by omega) (by omega) hc.1 hc.2, rfl, Raw_s1 hltI (by omega) hx hG1 hG0 hoi hml (hset x.n) rfl (decide_eq_true h1)⟩
  · rw [if_neg h1]
    by_cases h3 : x.k = 3
    · rw [if_pos h3]
      obtain ⟨v, ss', rfl, hg'⟩ := hg.state hx0 h3
      exact ⟨_, _, _, hg', rfl, Raw_s3 hltI (by omega) hx hG1 hG0 hoi hml (hset v) (decide_eq_false h1) (decide_eq_true h3)⟩
    · rw [if_neg h3]
      by_cases h2 : x.k = 2
      · rw [if_pos h2]
        obtain ⟨v, ks', rfl, hg'⟩ := hg.input hx0 h2
        exact ⟨_, _, _, hg', rfl, Raw_s2 hltI (by omega) hx hG1 hG0 hoi hml (hset v) (decide_eq_false h1) (decide_eq_false h3) (decide_eq_true h2)⟩
      · rw [if_neg h2]
        have hk : ¬ x.k ≤ 3 := by
          intro hle
          unfold nodeE at hn
          split at hn
          · omega
          · omega
        have ho := op_ok hx0 hn hk
        have hW := Widths_eq (gh := rawG gh (outL m.nodes.length acc)) ho.inn
        have hR := Raw_val hg ho (rawG gh (outL m.nodes.length acc))
        have ca := Raw1_eq hG1 hG0 ⟨ho.a.1, by have := ho.a; omega⟩ (outL_get (by have := ho.a; omega))
        have cb := Raw1_eq hG1 hG0 ⟨ho.b.1, by have := ho.b; omega⟩ (outL_get (by have := ho.b; omega))
        have cc := Raw1_eq hG1 hG0 ⟨ho.c.1, by have := ho.c; omega⟩ (outL_get (by have := ho.c; omega))
        rw [nodeV_def] at hW
        unfold widthsV at hW hR
        exact ⟨_, _, _, hg.op hx0 h3 h2 ho, rfl, Raw_s0 hltI (by omega) hx hG1 hG0 hoi hml (hset (valX m.nodes acc x)) (decide_eq_false h1) (decide_eq_false h3) (decide_eq_false h2) ca cb cc hW hR⟩
theorem Raw_loop (hl : m.nodes.length ≤ 80) (hz : ∀ (j : Nat) (x : Nd), m.nodes[j]? = some x → nodeE m.nodes j x = 0) : ∀ k i acc ss ks, i + k = m.nodes.length → VGood m.nodes i acc ss ks →
    runL pg f_eval_Raw_l1 (rwSt m ss ks (outL m.nodes.length acc) i gh) = some (.normal, ⟨[(7, .ptr true (gh.length + 1) 0)], [], rawG gh (valF m.nodes acc ss ks (m.nodes.drop i))⟩)
  | 0, i, acc, ss, ks, h, hg => by
    rw [List.drop_eq_nil_of_le (by omega), valF, outL_full (by rw [hg.len]; omega)]
    have hlt : ¬ (i : Int) < (m.nodes.length : Int) := by omega
    refine (lp_exit (s1 := ?s1) (D_eval_Raw_b1_ok ?h1)).trans ?r1
    case h1 => simp only [D_eval_Raw_b1, decide_eq_false hlt, br_false]; rfl
    case r1 => simp [keep, stays]
  | k + 1, i, acc, ss, ks, h, hg => by
    obtain ⟨v, ss', ks', h1, h2, h3⟩ := Raw_step (gh := gh) hl hz (show i < m.nodes.length by omega) hg
    rw [h2]
    exact lp_next (D_eval_Raw_b1_ok h3) (Raw_loop hl hz k (i + 1) _ _ _ (by omega) h1)
def valsOf (m : Md) (ss ks : List Int) : List Int := valF m.nodes [] ss ks m.nodes
theorem zero_cells (n : Nat) : List.flatMap PV.cells (List.replicate n (PV.int .i64 0)) = (outL n []).map I := by
  unfold outL
  rw [List.nil_append, List.length_nil, Nat.sub_zero, List.map_replicate]
  induction n with
  | zero => rfl
  | succ n ih => rw [List.replicate_succ, List.flatMap_cons, ih]; rfl
theorem valsOf_len {ss ks : List Int} : (valsOf m ss ks).length = m.nodes.length := by
  unfold valsOf; rw [valF_len]; simp
theorem vals_frz (xs : List Int) : frz gh.length (rawG gh xs) (.bs true gh.length 0 xs.length 1) = LI xs := by
  rw [frz_made (rawG_0 xs) (Nat.le_refl _) (by simp)]
  have e : ∀ l : List Int, (l.map I).map degr1 = l.map I := fun l => by rw [List.map_map]; rfl
  have e2 : (((xs.map I).drop 0).take xs.length) = xs.map I := by rw [List.drop_zero]; exact List.take_of_length_le (by simp)
  rw [e2, e]
theorem RawE_eq {ss ks : List Int} (h : checkE m = 0) (hg : VGood m.nodes 0 [] ss ks) : callL pg 139 [modelV m, LI ss, LI ks] gh = some (LI (valsOf m ss ks), gh) := by
  have hl := (good_of h).len
  have hlp := Raw_loop (gh := gh) hl (fun j x hx => node_zero h hx) m.nodes.length 0 [] ss ks (by omega) hg
  rw [List.drop_zero] at hlp
  change runL pg f_eval_Raw_l1 _ = some (_, ⟨_, _, rawG gh (valsOf m ss ks)⟩) at hlp
  have hvl := valsOf_len (m := m) (ss := ss) (ks := ks)
  have hfz := vals_frz (gh := gh) (valsOf m ss ks)
  have hn := noGs_ints (valsOf m ss ks)
  have ht : (rawG gh (valsOf m ss ks)).take gh.length = gh := by simp [rawG]
  have g1 := rawG_1 (gh := gh) (valsOf m ss ks)
  have k2 : runL pg f_eval_Raw_k2 ⟨[(7, .ptr true (gh.length + 1) 0)], [], rawG gh (valsOf m ss ks)⟩ = some (.ret, ⟨[(6, .bs true gh.length 0 (valsOf m ss ks).length 1)], [], rawG gh (valsOf m ss ks)⟩) := by
    refine D_eval_Raw_k2_ok ?_
    simp [D_eval_Raw_k2, g1]
  generalize valsOf m ss ks = V at *
  have hmx : decide ((m.nodes.length : Int) * 8 ≤ (maxBytes : Int)) = true := decide_eq_true (by have : maxBytes = 140737488355328 := rfl; omega)
  have hz := zero_cells m.nodes.length
  have hol : (outL m.nodes.length []).length = m.nodes.length := outL_len (by simp)
  unfold rwSt rawG at hlp
  rw [hol] at hlp
  simp only [Int.natCast_zero] at hlp
  rw [modelV_def]
  refine callL_fn (fn := f_eval_Raw) (s := ⟨[(6, .bs true gh.length 0 V.length 1)], [], rawG gh V⟩) rfl rfl (D_eval_Raw_0_ok ?h1) ?r1
  case h1 =>
    unfold rawG at k2 ⊢
    generalize (outL m.nodes.length []).map I = Z at *
    simp [D_eval_Raw_0, mkOk, hmx, hz, spliceAt, hlp, k2]
  case r1 => simp [finish, results, f_eval_Raw, resOfs, resOf, resOk, hfz, ht, hn]
theorem wrS (n : Nat) (h : n ≤ 1000) : IntKind.i64.wrap ((n : Int) + 1) = ((n + 1 : Nat) : Int) := by rw [wrap_id (by omega) (by omega)]; omega
theorem nd_len {R : Type} {l : List Nd} (f : Nat → Option R) : isC (degr (LN l)) (lenS (degr (degr (LN l))) f) = f l.length := by simp
theorem nd_isC {R : Type} {l : List Nd} (x : Option R) : isC (degr (LN l)) x = x := by simp
theorem nd_idx2 {R : Type} {l : List Nd} {i : Nat} {e : PV} (hx : (l.map nodeV)[i]? = some e) (f : PV → Option R) : idX 6 none (degr (degr (LN l))) (i : Int) f = f (.ep e 0) := by simp [hx, -List.getElem?_map]
theorem VO_s1 {b i s k ol : Nat} {G G2 : List GObj} {O S K : List PV} {v : Int} {x : Nd} (hltI : (i : Int) < (m.nodes.length : Int)) (hi : i ≤ 1000) (hs : s ≤ 1000) (hk : k ≤ 1000) (hx : (m.nodes.map nodeV)[i]? = some (.agg [I x.k, I x.w, I x.a, I x.b, I x.c, I x.n])) (hG0 : G[b]? = some (.cells O)) (hoi : i < ol) (hml : O.length = ol) (hset : G.set b (.cells (spliceAt O i [I v])) = G2) (hv : v = x.n) (d1 : decide (x.k = 1) = true) :
    D_ref_ValuesOf_b1 pg (.sl false 1 S) (.sl false 1 K) (.bs true b 0 ol 1) s k i (LN m.nodes) (LP m.inits) (LP m.nexts) (LI m.bads) (LI m.holds) G =
      some (.normal, ⟨[(1, .sl false 1 S), (2, .sl false 1 K), (3, .ptr false 0 0), (7, .bs true b 0 ol 1), (8, I ((s : Nat))), (9, I ((k : Nat))), (10, I (((i + 1 : Nat) : Int)))], [[LN m.nodes, LP m.inits, LP m.nexts, LI m.bads, LI m.holds]], G2⟩) := by
  have hil : (i : Int) < (ol : Int) := by omega
  have hoi2 : i + 1 ≤ ol := by omega
  have hk1 : runL pg f_ref_ValuesOf_k1 ⟨[(1, .sl false 1 S), (2, .sl false 1 K), (3, .ptr false 0 0), (7, .bs true b 0 ol 1), (8, I ((s : Nat))), (9, I ((k : Nat))), (10, I (i))], [[LN m.nodes, LP m.inits, LP m.nexts, LI m.bads, LI m.holds]], G2⟩ = some (.normal, ⟨[(1, .sl false 1 S), (2, .sl false 1 K), (3, .ptr false 0 0), (7, .bs true b 0 ol 1), (8, I ((s : Nat))), (9, I ((k : Nat))), (10, I (((i + 1 : Nat) : Int)))], [[LN m.nodes, LP m.inits, LP m.nexts, LI m.bads, LI m.holds]], G2⟩) := by
    refine D_ref_ValuesOf_k1_ok ?_
    simp [D_ref_ValuesOf_k1, wrS _ hi]
  push_cast at hk1
  subst hv
  rw [D_ref_ValuesOf_b1, nd_len]
  simp only [stK_sl, stK_bst, decide_eq_true hltI, br_true, nd_isC]
  rw [nd_idx2 hx, nd_ld, unA_6]
  simp [d1, hG0, hil, hoi2, hml, hset, hk1]
theorem VO_s2 {b i s k ol : Nat} {G G2 : List GObj} {O S K : List PV} {v : Int} {x : Nd} (hltI : (i : Int) < (m.nodes.length : Int)) (hi : i ≤ 1000) (hs : s ≤ 1000) (hk : k ≤ 1000) (hx : (m.nodes.map nodeV)[i]? = some (.agg [I x.k, I x.w, I x.a, I x.b, I x.c, I x.n])) (hG0 : G[b]? = some (.cells O)) (hoi : i < ol) (hml : O.length = ol) (hset : G.set b (.cells (spliceAt O i [I v])) = G2) (hK : K[k]? = some (I v)) (d1 : decide (x.k = 1) = false) (d2 : decide (x.k = 2) = true) :
    D_ref_ValuesOf_b1 pg (.sl false 1 S) (.sl false 1 K) (.bs true b 0 ol 1) s k i (LN m.nodes) (LP m.inits) (LP m.nexts) (LI m.bads) (LI m.holds) G =
      some (.normal, ⟨[(1, .sl false 1 S), (2, .sl false 1 K), (3, .ptr false 0 0), (7, .bs true b 0 ol 1), (8, I ((s : Nat))), (9, I (((k + 1 : Nat) : Int))), (10, I (((i + 1 : Nat) : Int)))], [[LN m.nodes, LP m.inits, LP m.nexts, LI m.bads, LI m.holds]], G2⟩) := by
  have hil : (i : Int) < (ol : Int) := by omega
  have hoi2 : i + 1 ≤ ol := by omega
  have hk1 : runL pg f_ref_ValuesOf_k1 ⟨[(1, .sl false 1 S), (2, .sl false 1 K), (3, .ptr false 0 0), (7, .bs true b 0 ol 1), (8, I ((s : Nat))), (9, I (((k + 1 : Nat) : Int))), (10, I (i))], [[LN m.nodes, LP m.inits, LP m.nexts, LI m.bads, LI m.holds]], G2⟩ = some (.normal, ⟨[(1, .sl false 1 S), (2, .sl false 1 K), (3, .ptr false 0 0), (7, .bs true b 0 ol 1), (8, I ((s : Nat))), (9, I (((k + 1 : Nat) : Int))), (10, I (((i + 1 : Nat) : Int)))], [[LN m.nodes, LP m.inits, LP m.nexts, LI m.bads, LI m.holds]], G2⟩) := by
    refine D_ref_ValuesOf_k1_ok ?_
    simp [D_ref_ValuesOf_k1, wrS _ hi]
  push_cast at hk1
  rw [D_ref_ValuesOf_b1, nd_len]
  simp only [stK_sl, stK_bst, decide_eq_true hltI, br_true, nd_isC]
  rw [nd_idx2 hx, nd_ld, unA_6]
  simp [d1, d2, hK, wrS _ hk, hG0, hil, hoi2, hml, hset, hk1]
theorem VO_s3 {b i s k ol : Nat} {G G2 : List GObj} {O S K : List PV} {v : Int} {x : Nd} (hltI : (i : Int) < (m.nodes.length : Int)) (hi : i ≤ 1000) (hs : s ≤ 1000) (hk : k ≤ 1000) (hx : (m.nodes.map nodeV)[i]? = some (.agg [I x.k, I x.w, I x.a, I x.b, I x.c, I x.n])) (hG0 : G[b]? = some (.cells O)) (hoi : i < ol) (hml : O.length = ol) (hset : G.set b (.cells (spliceAt O i [I v])) = G2) (hS : S[s]? = some (I v)) (d1 : decide (x.k = 1) = false) (d2 : decide (x.k = 2) = false) (d3 : decide (x.k = 3) = true) :
    D_ref_ValuesOf_b1 pg (.sl false 1 S) (.sl false 1 K) (.bs true b 0 ol 1) s k i (LN m.nodes) (LP m.inits) (LP m.nexts) (LI m.bads) (LI m.holds) G =
      some (.normal, ⟨[(1, .sl false 1 S), (2, .sl false 1 K), (3, .ptr false 0 0), (7, .bs true b 0 ol 1), (8, I (((s + 1 : Nat) : Int))), (9, I ((k : Nat))), (10, I (((i + 1 : Nat) : Int)))], [[LN m.nodes, LP m.inits, LP m.nexts, LI m.bads, LI m.holds]], G2⟩) := by
  have hil : (i : Int) < (ol : Int) := by omega
  have hoi2 : i + 1 ≤ ol := by omega
  have hk1 : runL pg f_ref_ValuesOf_k1 ⟨[(1, .sl false 1 S), (2, .sl false 1 K), (3, .ptr false 0 0), (7, .bs true b 0 ol 1), (8, I (((s + 1 : Nat) : Int))), (9, I ((k : Nat))), (10, I (i))], [[LN m.nodes, LP m.inits, LP m.nexts, LI m.bads, LI m.holds]], G2⟩ = some (.normal, ⟨[(1, .sl false 1 S), (2, .sl false 1 K), (3, .ptr false 0 0), (7, .bs true b 0 ol 1), (8, I (((s + 1 : Nat) : Int))), (9, I ((k : Nat))), (10, I (((i + 1 : Nat) : Int)))], [[LN m.nodes, LP m.inits, LP m.nexts, LI m.bads, LI m.holds]], G2⟩) := by
    refine D_ref_ValuesOf_k1_ok ?_
    simp [D_ref_ValuesOf_k1, wrS _ hi]
  push_cast at hk1
  rw [D_ref_ValuesOf_b1, nd_len]
  simp only [stK_sl, stK_bst, decide_eq_true hltI, br_true, nd_isC]
  rw [nd_idx2 hx, nd_ld, unA_6]
  simp [d1, d2, d3, hS, wrS _ hs, hG0, hil, hoi2, hml, hset, hk1]
theorem VO_s0 {b i s k ol : Nat} {G G2 : List GObj} {O S K : List PV} {v : Int} {x : Nd} (hltI : (i : Int) < (m.nodes.length : Int)) (hi : i ≤ 1000) (hs : s ≤ 1000) (hk : k ≤ 1000) (hx : (m.nodes.map nodeV)[i]? = some (.agg [I x.k, I x.w, I x.a, I x.b, I x.c, I x.n])) (hG0 : G[b]? = some (.cells O)) (hoi : i < ol) (hml : O.length = ol) (hset : G.set b (.cells (spliceAt O i [I v])) = G2) {ya yb yc w0 w1 w2 : Int} (d1 : decide (x.k = 1) = false) (d2 : decide (x.k = 2) = false) (d3 : decide (x.k = 3) = false)
    (ha : 0 ≤ x.a ∧ x.a < (ol : Int)) (hb : 0 ≤ x.b ∧ x.b < (ol : Int)) (hc : 0 ≤ x.c ∧ x.c < (ol : Int)) (ga : O[x.a.toNat]? = some (I ya)) (gb : O[x.b.toNat]? = some (I yb)) (gc : O[x.c.toNat]? = some (I yc))
    (hW : callL pg 102 [LN m.nodes, .agg [I x.k, I x.w, I x.a, I x.b, I x.c, I x.n]] G = some (.agg [I w0, I w1, I w2], G)) (hR : callL pg 28 [I x.k, I x.w, I ya, I yb, I yc, I x.n, .agg [I w0, I w1, I w2]] G = some (I v, G)) :
    D_ref_ValuesOf_b1 pg (.sl false 1 S) (.sl false 1 K) (.bs true b 0 ol 1) s k i (LN m.nodes) (LP m.inits) (LP m.nexts) (LI m.bads) (LI m.holds) G =
      some (.normal, ⟨[(1, .sl false 1 S), (2, .sl false 1 K), (3, .ptr false 0 0), (7, .bs true b 0 ol 1), (8, I ((s : Nat))), (9, I ((k : Nat))), (10, I (((i + 1 : Nat) : Int)))], [[LN m.nodes, LP m.inits, LP m.nexts, LI m.bads, LI m.holds]], G2⟩) := by
  have hil : (i : Int) < (ol : Int) := by omega
  have hoi2 : i + 1 ≤ ol := by omega
  have hk1 : runL pg f_ref_ValuesOf_k1 ⟨[(1, .sl false 1 S), (2, .sl false 1 K), (3, .ptr false 0 0), (7, .bs true b 0 ol 1), (8, I ((s : Nat))), (9, I ((k : Nat))), (10, I (i))], [[LN m.nodes, LP m.inits, LP m.nexts, LI m.bads, LI m.holds]], G2⟩ = some (.normal, ⟨[(1, .sl false 1 S), (2, .sl false 1 K), (3, .ptr false 0 0), (7, .bs true b 0 ol 1), (8, I ((s : Nat))), (9, I ((k : Nat))), (10, I (((i + 1 : Nat) : Int)))], [[LN m.nodes, LP m.inits, LP m.nexts, LI m.bads, LI m.holds]], G2⟩) := by
    refine D_ref_ValuesOf_k1_ok ?_
    simp [D_ref_ValuesOf_k1, wrS _ hi]
  push_cast at hk1
  obtain ⟨a0, a1⟩ := ha
  obtain ⟨b0, b1⟩ := hb
  obtain ⟨c0, c1⟩ := hc
  rw [D_ref_ValuesOf_b1, nd_len]
  simp only [stK_sl, stK_bst, decide_eq_true hltI, br_true, nd_isC]
  rw [nd_idx2 hx, nd_ld, unA_6]
  simp [d1, d2, d3, a0, a1, b0, b1, c0, c1, ga, gb, gc, hW, hR, hG0, hil, hoi2, hml, hset, hk1, -getElem?_pos, -getElem?_neg]
def voG (gh : List GObj) (o : List Int) : List GObj := gh ++ [.cells (o.map I)]
theorem voG_0 (o : List Int) : (voG gh o)[gh.length]? = some (.cells (o.map I)) := by simp [voG]
theorem voG_set {o o2 : List Int} : (voG gh o).set gh.length (.cells (o2.map I)) = voG gh o2 := by simp [voG]
def voSt (m : Md) (ss ks : List Int) (o : List Int) (s k i : Nat) (gh : List GObj) : St :=
  ⟨[(1, LI ss), (2, LI ks), (3, .ptr false 0 0), (7, .bs true gh.length 0 o.length 1), (8, I (s : Nat)), (9, I (k : Nat)), (10, I ((i : Nat) : Int))], [[LN m.nodes, LP m.inits, LP m.nexts, LI m.bads, LI m.holds]], voG gh o⟩
theorem drop_cons {l : List Int} {s : Nat} {v : Int} {r : List Int} (h : l.drop s = v :: r) : l[s]? = some v ∧ r = l.drop (s + 1) := by
  have h1 : s < l.length := Classical.byContradiction fun h2 => by rw [List.drop_eq_nil_of_le (by omega)] at h; cases h
  rw [List.drop_eq_getElem_cons h1] at h
  cases h
  exact ⟨List.getElem?_eq_getElem h1, rfl⟩
theorem VO_step (hl : m.nodes.length ≤ 80) (hz : ∀ (j : Nat) (x : Nd), m.nodes[j]? = some x → nodeE m.nodes j x = 0) {i s k : Nat} {acc ss ks : List Int} (hlt : i < m.nodes.length) (hs : s ≤ i) (hk : k ≤ i) (hg : VGood m.nodes i acc (ss.drop s) (ks.drop k)) :
    ∃ v s' k', s' ≤ i + 1 ∧ k' ≤ i + 1 ∧ VGood m.nodes (i + 1) (acc ++ [v]) (ss.drop s') (ks.drop k') ∧ valF m.nodes acc (ss.drop s) (ks.drop k) (m.nodes.drop i) = valF m.nodes (acc ++ [v]) (ss.drop s') (ks.drop k') (m.nodes.drop (i + 1)) ∧
      D_ref_ValuesOf_b1 pg (LI ss) (LI ks) (.bs true gh.length 0 (outL m.nodes.length acc).length 1) s k i (LN m.nodes) (LP m.inits) (LP m.nexts) (LI m.bads) (LI m.holds) (voG gh (outL m.nodes.length acc)) =
        some (.normal, voSt m ss ks (outL m.nodes.length (acc ++ [v])) s' k' (i + 1) gh) := by
  have hltI : (i : Int) < (m.nodes.length : Int) := by omega
  have hx0 : m.nodes[i]? = some m.nodes[i] := List.getElem?_eq_getElem hlt
  have hx : (m.nodes.map nodeV)[i]? = some (nodeV m.nodes[i]) := by simp [hx0]
  have hn := hz i _ hx0
  have hlen := hg.len
  rw [List.drop_eq_getElem_cons hlt, valF]
  generalize m.nodes[i] = x at *
  rw [nodeV_def x] at hx
  have hol : (outL m.nodes.length acc).length = m.nodes.length := outL_len (by omega)
  have hoi : i < (outL m.nodes.length acc).length := by omega
  have hG0 := voG_0 (gh := gh) (outL m.nodes.length acc)
  have hlv : ∀ v : Int, (outL m.nodes.length (acc ++ [v])).length = (outL m.nodes.length acc).length := fun v => by rw [outL_len (by simp; omega), hol]
  have hset : ∀ v : Int, (voG gh (outL m.nodes.length acc)).set gh.length (.cells (spliceAt ((outL m.nodes.length acc).map I) i [I v])) = voG gh (outL m.nodes.length (acc ++ [v])) := fun v => by
    have e : ((outL m.nodes.length acc).map I).set i (I v) = ((outL m.nodes.length acc).set i v).map I := by rw [List.map_set]
    rw [splice_set (by simpa using hoi), e, ← hlen, outL_set (by omega), voG_set]
  have hml : ((outL m.nodes.length acc).map I).length = (outL m.nodes.length acc).length := by simp
  unfold voSt
  by_cases h1 : x.k = 1
  · rw [if_pos h1]
    have hc := const_ok hn h1
    refine ⟨_, s, k, by omega, by omega, hg.other hx0 (by omega) (by omega) hc.1 hc.2, rfl, ?_⟩
    rw [hlv]
    exact VO_s1 hltI (by omega) (by omega) (by omega) hx hG0 hoi hml (hset x.n) rfl (decide_eq_true h1)
  · rw [if_neg h1]
    by_cases h3 : x.k = 3
    · rw [if_pos h3]
      obtain ⟨v, ss', e, hg'⟩ := hg.state hx0 h3
      obtain ⟨e1, e2⟩ := drop_cons e
      rw [e, List.headD_cons, List.tail_cons, e2]
      rw [e2] at hg'
      refine ⟨_, s + 1, k, by omega, by omega, hg', rfl, ?_⟩
      rw [hlv]
      exact VO_s3 hltI (by omega) (by omega) (by omega) hx hG0 hoi hml (hset v) (by simp [e1]) (decide_eq_false h1) (decide_eq_false (by omega)) (decide_eq_true h3)
    · rw [if_neg h3]
      by_cases h2 : x.k = 2
      · rw [if_pos h2]
        obtain ⟨v, ks', e, hg'⟩ := hg.input hx0 h2
        obtain ⟨e1, e2⟩ := drop_cons e
        rw [e, List.headD_cons, List.tail_cons, e2]
        rw [e2] at hg'
        refine ⟨_, s, k + 1, by omega, by omega, hg', rfl, ?_⟩
        rw [hlv]
        exact VO_s2 hltI (by omega) (by omega) (by omega) hx hG0 hoi hml (hset v) (by simp [e1]) (decide_eq_false h1) (decide_eq_true h2)
      · rw [if_neg h2]
        have hkk : ¬ x.k ≤ 3 := by
          intro hle
          unfold nodeE at hn
          split at hn
          · omega
          · omega
        have ho := op_ok hx0 hn hkk
        have hW := WidthsOf_eq (gh := voG gh (outL m.nodes.length acc)) ho.inn
        have hR := Made_val hg ho (voG gh (outL m.nodes.length acc))
        have oa := ho.a
        have ob := ho.b
        have oc := ho.c
        have ca : ((outL m.nodes.length acc).map I)[x.a.toNat]? = some (I (acc.getD x.a.toNat 0)) := by rw [List.getElem?_map, outL_get (by omega)]; rfl
        have cb : ((outL m.nodes.length acc).map I)[x.b.toNat]? = some (I (acc.getD x.b.toNat 0)) := by rw [List.getElem?_map, outL_get (by omega)]; rfl
        have cc : ((outL m.nodes.length acc).map I)[x.c.toNat]? = some (I (acc.getD x.c.toNat 0)) := by rw [List.getElem?_map, outL_get (by omega)]; rfl
        rw [nodeV_def] at hW
        unfold widthsV at hW hR
        refine ⟨_, s, k, by omega, by omega, hg.op hx0 h3 h2 ho, rfl, ?_⟩
        rw [hlv]
        exact VO_s0 hltI (by omega) (by omega) (by omega) hx hG0 hoi hml (hset (valX m.nodes acc x)) (decide_eq_false h1) (decide_eq_false h2) (decide_eq_false h3) ⟨oa.1, by omega⟩ ⟨ob.1, by omega⟩ ⟨oc.1, by omega⟩ ca cb cc hW hR
theorem VO_loop (hl : m.nodes.length ≤ 80) (hz : ∀ (j : Nat) (x : Nd), m.nodes[j]? = some x → nodeE m.nodes j x = 0) {ss ks : List Int} : ∀ n i s k acc, i + n = m.nodes.length → s ≤ i → k ≤ i → VGood m.nodes i acc (ss.drop s) (ks.drop k) →
    runL pg f_ref_ValuesOf_l1 (voSt m ss ks (outL m.nodes.length acc) s k i gh) = some (.normal, ⟨[(7, .bs true gh.length 0 (valF m.nodes acc (ss.drop s) (ks.drop k) (m.nodes.drop i)).length 1)], [], voG gh (valF m.nodes acc (ss.drop s) (ks.drop k) (m.nodes.drop i))⟩)
  | 0, i, s, k, acc, h, _, _, hg => by
    rw [List.drop_eq_nil_of_le (show m.nodes.length ≤ i by omega), valF, outL_full (by rw [hg.len]; omega)]
    have hlt : ¬ i < m.nodes.length := by omega
    refine (lp_exit (s1 := ?s1) (D_ref_ValuesOf_b1_ok ?h1)).trans ?r1
    case h1 => simp [D_ref_ValuesOf_b1, hlt]; rfl
    case r1 => simp [keep, stays]
  | n + 1, i, s, k, acc, h, hs, hk, hg => by
    obtain ⟨v, s', k', h1, h2, h3, h4, h5⟩ := VO_step (gh := gh) hl hz (show i < m.nodes.length by omega) hs hk hg
    rw [h4]
    exact lp_next (D_ref_ValuesOf_b1_ok h5) (VO_loop hl hz n (i + 1) s' k' _ (by omega) h1 h2 h3)
theorem vals_frz2 (xs : List Int) : frz gh.length (voG gh xs) (.bs true gh.length 0 xs.length 1) = LI xs := by
  rw [frz_made (voG_0 xs) (Nat.le_refl _) (by simp)]
  have e : ∀ l : List Int, (l.map I).map degr1 = l.map I := fun l => by rw [List.map_map]; rfl
  have e2 : (((xs.map I).drop 0).take xs.length) = xs.map I := by rw [List.drop_zero]; exact List.take_of_length_le (by simp)
  rw [e2, e]
theorem ValuesOf_eq {ss ks : List Int} (h : checkE m = 0) (hg : VGood m.nodes 0 [] ss ks) : callL pg 132 [modelV m, LI ss, LI ks] gh = some (LI (valsOf m ss ks), gh) := by
  have hl := (good_of h).len
  have hlp := VO_loop (gh := gh) (ss := ss) (ks := ks) hl (fun j x hx => node_zero h hx) m.nodes.length 0 0 0 [] (by omega) (Nat.le_refl _) (Nat.le_refl _) (by simpa using hg)
  simp only [List.drop_zero] at hlp
  change runL pg f_ref_ValuesOf_l1 _ = some (_, ⟨[(_, .bs _ _ _ (valsOf m ss ks).length _)], _, voG gh (valsOf m ss ks)⟩) at hlp
  have hfz := vals_frz2 (gh := gh) (valsOf m ss ks)
  have hn := noGs_ints (valsOf m ss ks)
  have ht : (voG gh (valsOf m ss ks)).take gh.length = gh := by simp [voG]
  generalize valsOf m ss ks = V at *
  have k2 := D_ref_ValuesOf_k2_ok (pg := pg) (gh := voG gh V) (v7 := .bs true gh.length 0 V.length 1) (e := .ret) (s := ⟨[(6, .bs true gh.length 0 V.length 1)], [], voG gh V⟩) (by simp [D_ref_ValuesOf_k2])
  have hmx : decide ((m.nodes.length : Int) * 8 ≤ (maxBytes : Int)) = true := decide_eq_true (by have : maxBytes = 140737488355328 := rfl; omega)
  have hz := zero_cells m.nodes.length
  have hol : (outL m.nodes.length []).length = m.nodes.length := outL_len (by simp)
  unfold voSt at hlp
  rw [hol] at hlp
  simp only [Int.natCast_zero] at hlp
  rw [modelV_def]
  refine callL_fn (fn := f_ref_ValuesOf) (s := ⟨[(6, .bs true gh.length 0 V.length 1)], [], voG gh V⟩) rfl rfl (D_ref_ValuesOf_0_ok ?h1) ?r1
  case h1 =>
    unfold voG at hlp k2 ⊢
    generalize (outL m.nodes.length []).map I = Z at *
    simp [D_ref_ValuesOf_0, mkOk, hmx, hz, hlp, k2]
  case r1 => simp [finish, results, f_ref_ValuesOf, resOfs, resOf, resOk, hfz, ht, hn]
end
end Go.Lw
end

/-! States of a model: what they begin as. -/
section
namespace Go.Lw
open Go
def pairOf : List (Int × Int) → Int → Int
  | [], _ => -1
  | p :: ps, s => if p.1 = s then p.2 else pairOf ps s
def hasP (ps : List (Int × Int)) (s : Int) : Bool := ps.any fun p => decide (p.1 = s)
theorem hasP_cons (p : Int × Int) (ps : List (Int × Int)) (s : Int) : hasP (p :: ps) s = (decide (p.1 = s) || hasP ps s) := rfl
theorem pairOf_no : ∀ {ps : List (Int × Int)} {s : Int}, hasP ps s = false → pairOf ps s = -1
  | [], _, _ => rfl
  | p :: ps, s, h => by
    rw [hasP_cons, Bool.or_eq_false_iff] at h
    rw [pairOf, if_neg (by simpa using h.1)]
    exact pairOf_no h.2
theorem pairOf_mem : ∀ {ps : List (Int × Int)} {s : Int}, hasP ps s = true → (s, pairOf ps s) ∈ ps
  | [], _, h => by cases h
  | p :: ps, s, h => by
    rw [pairOf]
    by_cases hp : p.1 = s
    · rw [if_pos hp, ← hp]; exact List.mem_cons_self ..
    · rw [if_neg hp]
      rw [hasP_cons, Bool.or_eq_true] at h
      rcases h with h | h
      · exact absurd (by simpa using h) hp
      · exact List.mem_cons_of_mem _ (pairOf_mem h)
section
variable {m : Md} {gh : List GObj}
theorem PairOf_loop {ps : List (Int × Int)} {s : Int} (hl : Sz ps.length) : ∀ k i, i + k = ps.length →
    runL pg f_ref_PairOf_l1 ⟨[(0, LP ps), (1, I s), (5, I (i : Int))], [], gh⟩ = if hasP (ps.drop i) s then some (.ret, ⟨[(4, I (pairOf (ps.drop i) s))], [], gh⟩) else some (.normal, ⟨[], [], gh⟩)
  | 0, i, h => by
    rw [List.drop_eq_nil_of_le (by omega)]
    have hlt : ¬ i < ps.length := by omega
    refine (lp_exit (s1 := ?s1) (D_ref_PairOf_b1_ok ?h1)).trans ?r1
    case h1 => simp [D_ref_PairOf_b1, hlt]; rfl
    case r1 => simp [keep, hasP]
  | k + 1, i, h => by
    have hlt : i < ps.length := by omega
    have hltD : decide (i < ps.length) = true := decide_eq_true hlt
    have e2 : IntKind.i64.wrap ((i : Int) + 1) = ((i + 1 : Nat) : Int) := wrap_nat (by simp only [Sz] at hl ⊢; omega)
    have hg : (ps.map andV)[i]? = some (andV ps[i]) := by simp [List.getElem?_eq_getElem hlt]
    rw [List.drop_eq_getElem_cons hlt, hasP_cons, pairOf]
    generalize ps[i] = p at *
    rw [andV_def] at hg
    by_cases hp : p.1 = s
    · have hd : decide (p.1 = s) = true := decide_eq_true hp
      rw [if_pos hp, hd, Bool.true_or, if_pos rfl]
      refine lp_ret (D_ref_PairOf_b1_ok ?_)
      simp [D_ref_PairOf_b1, hltD, hg, hd, -List.getElem?_map]
    · have hd : decide (p.1 = s) = false := decide_eq_false hp
      rw [if_neg hp, hd, Bool.false_or]
      refine lp_next (s1 := ⟨[(0, LP ps), (1, I s), (5, I ((i + 1 : Nat) : Int))], [], gh⟩) (D_ref_PairOf_b1_ok ?_) (PairOf_loop hl k (i + 1) (by omega))
      simp [D_ref_PairOf_b1, hltD, hg, hd, e2, -List.getElem?_map]
theorem PairOf_eq {ps : List (Int × Int)} {s : Int} (hl : Sz ps.length) : callL pg 137 [LP ps, I s] gh = some (I (pairOf ps s), gh) := by
  have h := PairOf_loop (gh := gh) (s := s) hl ps.length 0 (by omega)
  rw [List.drop_zero] at h
  simp only [Int.natCast_zero] at h
  have hk := D_ref_PairOf_k1_ok (pg := pg) (gh := gh) rfl
  cases hh : hasP ps s with
  | true =>
    rw [hh, if_pos rfl] at h
    refine callL_fn (fn := f_ref_PairOf) (s := ⟨[(4, I (pairOf ps s))], [], gh⟩) rfl rfl (D_ref_PairOf_0_ok ?h1) ?r1
    case h1 => simp [D_ref_PairOf_0, h]
    case r1 => simp [finish, results, f_ref_PairOf, resOfs, resOf, resOk]
  | false =>
    rw [hh, if_neg (by decide)] at h
    rw [pairOf_no hh]
    refine callL_fn (fn := f_ref_PairOf) (s := ⟨[(4, I (-1))], [], gh⟩) rfl rfl (D_ref_PairOf_0_ok ?h2) ?r2
    case h2 => simp [D_ref_PairOf_0, h, hk]
    case r2 => simp [finish, results, f_ref_PairOf, resOfs, resOf, resOk]
def byM (V : List Int) (ps : List (Int × Int)) : List (Int × Int) := ps.map fun p => (p.1, V.getD p.2.toNat 0)
theorem setI_new : ∀ {l : List (Int × Int)} {k v : Int}, (∀ p ∈ l, p.1 ≠ k) → setI l k v = l ++ [(k, v)]
  | [], _, _, _ => rfl
  | (a, u) :: l, k, v, h => by
    rw [setI, if_neg (fun e => h (a, u) (List.mem_cons_self ..) e.symm), setI_new fun p hp => h p (List.mem_cons_of_mem _ hp)]; rfl
theorem byM_step {V : List Int} {ps : List (Int × Int)} {i : Nat} (hn : (ps.map (·.1)).Nodup) (hi : i < ps.length) : setI (byM V (ps.take i)) ps[i].1 (V.getD ps[i].2.toNat 0) = byM V (ps.take (i + 1)) := by
  rw [setI_new]
  · rw [List.take_succ_eq_append_getElem hi]; unfold byM; rw [List.map_append]; rfl
  · intro p hp
    obtain ⟨q, hq, rfl⟩ := List.mem_map.1 hp
    obtain ⟨j, hj, rfl⟩ := List.mem_iff_getElem.1 hq
    rw [List.length_take] at hj
    rw [List.getElem_take]
    intro e
    have e : ps[j].1 = ps[i].1 := e
    have : j = i := nodup_inj (l := ps.map (·.1)) hn (by simp [List.getElem?_eq_getElem (show j < ps.length by omega), List.getElem?_eq_getElem hi, e]) (by simp; omega)
    omega
theorem findI_byM {V : List Int} : ∀ {ps : List (Int × Int)} {s : Int}, findI (byM V ps) s = if hasP ps s then some (V.getD (pairOf ps s).toNat 0) else none
  | [], _ => rfl
  | p :: ps, s => by
    have ih := findI_byM (V := V) (ps := ps) (s := s)
    change (if s = p.1 then _ else findI (byM V ps) s) = _
    rw [hasP_cons, pairOf, ih]
    by_cases h : p.1 = s
    · rw [if_pos h.symm, decide_eq_true h, Bool.true_or, if_pos rfl, if_pos h]
    · rw [if_neg (fun e => h e.symm), decide_eq_false h, Bool.false_or, if_neg h]
def firstF (V : List Int) (ps : List (Int × Int)) : List Int → List Int → List Int
  | s :: ss, w :: ws => (if hasP ps s then V.getD (pairOf ps s).toNat 0 else w) :: firstF V ps ss ws
  | _, _ => []
theorem vget {V : List Int} {a : Int} (h : a.toNat < V.length) : (V.map I)[a.toNat]? = some (I (V.getD a.toNat 0)) := by
  simp [List.getD_eq_getElem?_getD, List.getElem?_eq_getElem h]
theorem First_loop1 {V wish st : List Int} {ps : List (Int × Int)} (hl : Sz ps.length) (hn : (ps.map (·.1)).Nodup) (hp : ∀ p ∈ ps, 0 ≤ p.2 ∧ p.2.toNat < V.length) : ∀ k i, i + k = ps.length →
    runL pg f_eval_First_l1 ⟨[(1, LI wish), (5, LI st), (6, LI V), (7, .mp gh.length), (26, LP ps), (27, I ps.length), (28, I (i : Int))], [], gh ++ [.map (mapI (byM V (ps.take i)))]⟩ =
      some (.normal, ⟨[(1, LI wish), (5, LI st), (7, .mp gh.length)], [], gh ++ [.map (mapI (byM V ps))]⟩)
  | 0, i, h => by
    rw [List.take_of_length_le (by omega)]
    have hlt : ¬ (i : Int) < (ps.length : Int) := by omega
    refine (lp_exit (s1 := ?s1) (D_eval_First_b1_ok ?h1)).trans ?r1
    case h1 => simp only [D_eval_First_b1, decide_eq_false hlt, br_false]; rfl
    case r1 => simp [keep, stays]
  | k + 1, i, h => by
    have hlt : i < ps.length := by omega
    have hltI : (i : Int) < (ps.length : Int) := by omega
    have e2 : IntKind.i64.wrap ((i : Int) + 1) = ((i + 1 : Nat) : Int) := wrap_nat (by simp only [Sz] at hl ⊢; omega)
    have hg : (ps.map andV)[i]? = some (andV ps[i]) := by simp [List.getElem?_eq_getElem hlt]
    have hs := byM_step (V := V) hn hlt
    obtain ⟨q0, q1⟩ := hp _ (List.getElem_mem hlt)
    have hv := vget q1
    refine lp_next (s1 := ⟨[(1, LI wish), (5, LI st), (6, LI V), (7, .mp gh.length), (26, LP ps), (27, I ps.length), (28, I ((i + 1 : Nat) : Int))], [], gh ++ [GObj.map (mapI (byM V (ps.take (i + 1))))]⟩) (D_eval_First_b1_ok ?_) (First_loop1 hl hn hp k (i + 1) (by omega))
    generalize ps[i] = p at *
    rw [andV_def] at hg
    generalize V.getD p.2.toNat 0 = v at *
    generalize byM V (ps.take (i + 1)) = M2 at *
    generalize byM V (ps.take i) = M1 at *
    have hmu := fun f => muX_last (R := IExit × St) gh M1 p.1 v f
    rw [hs] at hmu
    simp [D_eval_First_b1, hltI, hg, q0, hv, e2, hmu, -List.getElem?_map, -lkX_mp, -muX_mp]
theorem map_snoc (acc : List Int) (v : Int) : (acc ++ [v]).map I = acc.map I ++ [I v] := by simp
theorem fi_k3 {wish st : List Int} {M : List (Int × Int)} {A : List PV} {i : Nat} (hi : i ≤ 1000) :
    runL pg f_eval_First_k3 ⟨[(1, LI wish), (7, .mp gh.length), (10, .sl true 1 A), (41, LI st), (42, I st.length), (43, I (i : Int))], [], gh ++ [.map (mapI M)]⟩ =
      some (.normal, ⟨[(1, LI wish), (7, .mp gh.length), (10, .sl true 1 A), (41, LI st), (42, I st.length), (43, I ((i + 1 : Nat) : Int))], [], gh ++ [.map (mapI M)]⟩) := by
  have e2 : IntKind.i64.wrap ((i : Int) + 1) = ((i + 1 : Nat) : Int) := by rw [wrap_id (by omega) (by omega)]; omega
  refine D_eval_First_k3_ok ?_
  simp [D_eval_First_k3, e2]
theorem fi_k2 {wish st : List Int} {M : List (Int × Int)} {A : List PV} {i : Nat} {v : Int} (hA : (A.length + 1) * 8 ≤ maxBytes) :
    runL pg f_eval_First_k2 ⟨[(1, LI wish), (7, .mp gh.length), (10, .sl true 1 A), (13, I v), (41, LI st), (42, I st.length), (43, I (i : Int))], [], gh ++ [.map (mapI M)]⟩ =
      some (.normal, ⟨[(1, LI wish), (7, .mp gh.length), (10, .sl true 1 (A ++ [I v])), (41, LI st), (42, I st.length), (43, I (i : Int))], [], gh ++ [.map (mapI M)]⟩) := by
  refine D_eval_First_k2_ok ?_
  simp [D_eval_First_k2, hA]
theorem First_loop2 {V wish st : List Int} {ps : List (Int × Int)} (hl : st.length ≤ 1000) (hw : wish.length = st.length) : ∀ k i acc, i + k = st.length → acc.length ≤ i →
    runL pg f_eval_First_l2 ⟨[(1, LI wish), (7, .mp gh.length), (10, .sl true 1 (acc.map I)), (41, LI st), (42, I st.length), (43, I (i : Int))], [], gh ++ [.map (mapI (byM V ps))]⟩ =
      some (.normal, ⟨[(10, .sl true 1 ((acc ++ firstF V ps (st.drop i) (wish.drop i)).map I))], [], gh ++ [.map (mapI (byM V ps))]⟩)
  | 0, i, acc, h, _ => by
    rw [List.drop_eq_nil_of_le (by omega), List.drop_eq_nil_of_le (show wish.length ≤ i by omega), firstF, List.append_nil]
    have hlt : ¬ (i : Int) < (st.length : Int) := by omega
    refine (lp_exit (s1 := ?s1) (D_eval_First_b2_ok ?h1)).trans ?r1
    case h1 => simp only [D_eval_First_b2, decide_eq_false hlt, br_false]; rfl
    case r1 => simp [keep, stays]
    all_goals (intros; simp_all)
  | k + 1, i, acc, h, ha => by
    have hlt : i < st.length := by omega
    have hlw : i < wish.length := by omega
    have hltI : (i : Int) < (st.length : Int) := by omega
    have hg : (st.map I)[i]? = some (I st[i]) := by simp [List.getElem?_eq_getElem hlt]
    have hgw : (wish.map I)[i]? = some (I wish[i]) := by simp [List.getElem?_eq_getElem hlw]
    have hmx : ((acc.map I).length + 1) * 8 ≤ maxBytes := by
      have : maxBytes = 140737488355328 := rfl
      simp; omega
    rw [List.drop_eq_getElem_cons hlt, List.drop_eq_getElem_cons hlw, firstF, List.append_cons acc]
    refine lp_next (s1 := ⟨[(1, LI wish), (7, .mp gh.length), (10, .sl true 1 ((acc ++ [if hasP ps st[i] then V.getD (pairOf ps st[i]).toNat 0 else wish[i]]).map I)), (41, LI st), (42, I st.length), (43, I ((i + 1 : Nat) : Int))], [], gh ++ [GObj.map (mapI (byM V ps))]⟩) (D_eval_First_b2_ok ?_) (First_loop2 hl hw k (i + 1) _ (by omega) (by simp; omega))
    have hf := findI_byM (V := V) (ps := ps) (s := st[i])
    rw [map_snoc]
    generalize acc.map I = A at *
    generalize byM V ps = M at *
    generalize wish[i] = w at *
    generalize st[i] = a at *
    have hlk := fun f => lkX_last (R := IExit × St) gh M a f
    have k2 := fun v => fi_k2 (gh := gh) (wish := wish) (st := st) (M := M) (i := i) (v := v) hmx
    have k3 := fun v => fi_k3 (gh := gh) (wish := wish) (st := st) (M := M) (A := A ++ [I v]) (i := i) (by omega)
    cases hh : hasP ps a with
    | true =>
      rw [hh, if_pos rfl] at hf
      rw [if_pos rfl]
      generalize V.getD (pairOf ps a).toNat 0 = v at *
      rw [hf] at hlk
      simp [D_eval_First_b2, hltI, hg, hlk, k2, k3, -List.getElem?_map, -lkX_mp]
    | false =>
      rw [hh, if_neg (by decide)] at hf
      rw [if_neg (by decide)]
      rw [hf] at hlk
      simp [D_eval_First_b2, hltI, hg, hgw, hlk, k2, k3, -List.getElem?_map, -lkX_mp]
theorem pairs_len {m : Md} (hm : MdGood m) : m.inits.length ≤ 80 ∧ m.nexts.length ≤ 80 := by
  have len1 : ∀ {l : List (Int × Int)}, (l.map (·.1)).Nodup → (∀ p ∈ l, isNo m.nodes p.1) → l.length ≤ 80 := fun {l} hd hp => by
    have hs := List.Nodup.length_le_of_subset hd (l₂ := (List.range m.nodes.length).map fun (i : Nat) => (i : Int)) (fun a ha => by
      obtain ⟨p, hp', rfl⟩ := List.mem_map.1 ha
      have := hp p hp'
      have h3 := this.1
      have h4 := this.2
      exact List.mem_map.2 ⟨p.1.toNat, List.mem_range.2 h4, by omega⟩)
    have := hm.len
    simp at hs
    omega
  exact ⟨len1 hm.nod1 (fun p hp => (hm.pairs p (List.mem_append.2 (.inl hp))).1), len1 hm.nod2 (fun p hp => (hm.pairs p (List.mem_append.2 (.inr hp))).1)⟩
theorem words_zero {L : List Nd} : ∀ ns : List Int, wordsF L ns (List.replicate ns.length 0) = 0
  | [] => rfl
  | a :: ns => by
    rw [List.length_cons, List.replicate_succ, wordsF, if_pos]
    · exact words_zero ns
    · have : 1 ≤ 2 ^ (wAt L a).toNat := Nat.one_le_two_pow
      omega
theorem wordsE_zero {L : List Nd} (ns : List Int) : wordsE L ns (List.replicate ns.length 0) = 0 := by
  unfold wordsE
  rw [if_neg (by simp)]
  exact words_zero ns
def zStates (m : Md) : List Int := List.replicate (kindL m.nodes 3).length 0
def zInputs (m : Md) : List Int := List.replicate (kindL m.nodes 2).length 0
def zVals (m : Md) : List Int := valsOf m (zStates m) (zInputs m)
def firstL (m : Md) (wish : List Int) : List Int := firstF (zVals m) m.inits (kindL m.nodes 3) wish
theorem kind_len {m : Md} (hm : MdGood m) (k : Int) : (kindL m.nodes k).length ≤ 80 := Nat.le_trans (kindF_len _ _ _) hm.len
theorem z_good {m : Md} : VGood m.nodes 0 [] (zStates m) (zInputs m) := good_start (wordsE_zero _) (wordsE_zero _)
theorem inits_in {m : Md} (hm : MdGood m) : ∀ p ∈ m.inits, 0 ≤ p.2 ∧ p.2.toNat < (zVals m).length := fun p hp => by
  have := (hm.pairs p (List.mem_append.2 (.inl hp))).2
  unfold zVals
  rw [valsOf_len]
  exact this
theorem First_eq {wish : List Int} (h : checkE m = 0) (hw : wish.length = (kindL m.nodes 3).length) : callL pg 136 [modelV m, LI wish] gh = some (LI (firstL m wish), gh) := by
  have hm := good_of h
  have hl := hm.len
  have hpl := (pairs_len hm).1
  have o3 := Ofk_eq (m := m) (gh := gh) (kind := 3) (by omega)
  have o2 := Ofk_eq (m := m) (gh := gh) (kind := 2) (by omega)
  have hmx : maxBytes = 140737488355328 := rfl
  have l3 := kind_len hm 3
  have l2 := kind_len hm 2
  have z3 := zeros_eq (gh := gh) (vs := kindL m.nodes 3) (by omega)
  have z2 := zeros_eq (gh := gh) (vs := kindL m.nodes 2) (by omega)
  have hr := RawE_eq (gh := gh) h z_good
  have h1 := First_loop1 (gh := gh) (wish := wish) (st := kindL m.nodes 3) (by simp only [Sz]; omega) hm.nod1 (inits_in hm) m.inits.length 0 (by omega)
  have h2 := First_loop2 (gh := gh) (V := zVals m) (ps := m.inits) (by omega) hw (kindL m.nodes 3).length 0 [] (by omega) (by simp)
  rw [List.drop_zero, List.drop_zero, List.nil_append] at h2
  simp only [List.take_zero, List.map_nil, Int.natCast_zero] at h1 h2
  change runL pg f_eval_First_l1 ⟨_, _, gh ++ [GObj.map []]⟩ = _ at h1
  change callL pg 142 _ _ = some (LI (zStates m), gh) at z3
  change callL pg 142 _ _ = some (LI (zInputs m), gh) at z2
  change callL pg 139 _ _ = some (LI (zVals m), gh) at hr
  change runL pg f_eval_First_l2 _ = some (_, ⟨[(_, .sl true 1 ((firstL m wish).map I))], _, _⟩) at h2
  have hn := noGs_ints (firstL m wish)
  generalize firstL m wish = F at *
  generalize zVals m = V at *
  generalize zStates m = Z3 at *
  generalize zInputs m = Z2 at *
  generalize mapI (byM V m.inits) = MM at *
  have k4 : runL pg f_eval_First_k4 ⟨[(10, .sl true 1 (F.map I))], [], gh ++ [GObj.map MM]⟩ = some (.ret, ⟨[(4, .sl false 1 (F.map I))], [], gh ++ [GObj.map MM]⟩) := by
    refine D_eval_First_k4_ok ?_
    simp [D_eval_First_k4]
  have k1 : runL pg f_eval_First_k1 ⟨[(1, LI wish), (5, LI (kindL m.nodes 3)), (7, .mp gh.length)], [], gh ++ [GObj.map MM]⟩ = some (.ret, ⟨[(4, .sl false 1 (F.map I))], [], gh ++ [GObj.map MM]⟩) := by
    refine D_eval_First_k1_ok ?_
    simp [D_eval_First_k1, h2, k4]
  rw [modelV_def] at *
  refine callL_fn (fn := f_eval_First) (s := ⟨[(4, .sl false 1 (F.map I))], [], gh ++ [GObj.map MM]⟩) rfl rfl (D_eval_First_0_ok ?h1) ?r1
  case h1 => simp [D_eval_First_0, o3, o2, z3, z2, hr, h1, k1]
  case r1 => simp [finish, results, f_eval_First, resOfs, resOf, resOk, hn]
def beginE (m : Md) (wish : List Int) : Int := if checkE m = 0 then wordsE m.nodes (kindL m.nodes 3) wish else checkE m
def beginL (m : Md) (wish : List Int) : List Int := if beginE m wish = 0 then firstL m wish else []
theorem wordsE_len {L : List Nd} {ns vs : List Int} (h : wordsE L ns vs = 0) : vs.length = ns.length := by
  unfold wordsE at h
  split at h
  · cases h
  · omega
theorem Begin_eq {wish : List Int} (h1 : Sz m.inits.length) (h2 : Sz m.nexts.length) : callL pg 123 [modelV m, LI wish] gh = some (.tup [LI (beginL m wish), I (beginE m wish)], gh) := by
  have hc := MCheck_eq (m := m) (gh := gh) h1 h2
  unfold beginL beginE
  by_cases h : checkE m = 0
  · rw [if_pos h]
    have hm := good_of h
    have hl := hm.len
    have o3 := Ofk_eq (m := m) (gh := gh) (kind := 3) (by omega)
    have w3 := Words_eq (gh := gh) (vs := wish) (wd_kind h 3) (Nat.le_trans (kind_len hm 3) (by omega))
    rw [h] at hc
    by_cases he : wordsE m.nodes (kindL m.nodes 3) wish = 0
    · have hf := First_eq (gh := gh) h (wordsE_len he)
      rw [he] at w3 ⊢
      rw [if_pos rfl]
      have hn := noGs_ints (firstL m wish)
      simp only [LI] at hf hn ⊢
      generalize (firstL m wish).map I = F at *
      rw [modelV_def] at *
      have k1 : runL pg f_eval_Begin_k1 ⟨[(1, .sl false 1 (wish.map I)), (2, .ptr false 0 0), (6, I 0)], [[LN m.nodes, LP m.inits, LP m.nexts, LI m.bads, LI m.holds]], gh⟩ = some (.ret, ⟨[(4, .sl false 1 F), (5, I 0)], [], gh⟩) := by
        refine D_eval_Begin_k1_ok ?_
        simp [D_eval_Begin_k1, hf]
      refine callL_fn (fn := f_eval_Begin) (s := ⟨[(4, .sl false 1 F), (5, I 0)], [], gh⟩) rfl rfl (D_eval_Begin_0_ok ?h1) ?r1
      case h1 => simp [D_eval_Begin_0, hc, o3, w3, k1]
      case r1 => simp [finish, results, f_eval_Begin, resOfs, resOf, resOk, hn]
    · rw [if_neg he]
      generalize wordsE m.nodes (kindL m.nodes 3) wish = e at *
      rw [modelV_def] at *
      have k1 : runL pg f_eval_Begin_k1 ⟨[(1, LI wish), (2, .ptr false 0 0), (6, I e)], [[LN m.nodes, LP m.inits, LP m.nexts, LI m.bads, LI m.holds]], gh⟩ = some (.ret, ⟨[(4, .sl true 1 []), (5, I e)], [], gh⟩) := by
        refine D_eval_Begin_k1_ok ?_
        simp [D_eval_Begin_k1, he]
      refine callL_fn (fn := f_eval_Begin) (s := ⟨[(4, .sl true 1 []), (5, I e)], [], gh⟩) rfl rfl (D_eval_Begin_0_ok ?h2) ?r2
      case h2 => simp [D_eval_Begin_0, hc, o3, w3, k1]
      case r2 => simp [finish, results, f_eval_Begin, resOfs, resOf, resOk]
  · rw [if_neg h, if_neg h]
    generalize checkE m = e at *
    rw [modelV_def] at *
    have k1 : runL pg f_eval_Begin_k1 ⟨[(1, LI wish), (2, .ptr false 0 0), (6, I e)], [[LN m.nodes, LP m.inits, LP m.nexts, LI m.bads, LI m.holds]], gh⟩ = some (.ret, ⟨[(4, .sl true 1 []), (5, I e)], [], gh⟩) := by
      refine D_eval_Begin_k1_ok ?_
      simp [D_eval_Begin_k1, h]
    refine callL_fn (fn := f_eval_Begin) (s := ⟨[(4, .sl true 1 []), (5, I e)], [], gh⟩) rfl rfl (D_eval_Begin_0_ok ?h3) ?r3
    case h3 => simp [D_eval_Begin_0, hc, h, k1]
    case r3 => simp [finish, results, f_eval_Begin, resOfs, resOf, resOk]
end
end Go.Lw
end

/-! Steps of a model, and what is looked at. -/
section
namespace Go.Lw
open Go
theorem check_parts {m : Md} (h : checkE m = 0) : pairsAll m (hangF [] m.nodes) = 0 ∧ marksE m = 0 := by
  unfold checkE at h
  split at h
  · contradiction
  split at h
  · contradiction
  split at h
  · contradiction
  split at h
  · contradiction
  rename_i h4
  exact ⟨Classical.byContradiction h4, h⟩
theorem pair_state {l : List Nd} {f : List Bool} {b : Bool} : ∀ {ps : List (Int × Int)}, pairsE l f b ps = 0 → ∀ p ∈ ps, p.1 ∈ kindL l 3
  | [], _, p, hp => by cases hp
  | q :: ps, h, p, hp => by
    rw [pairsE] at h
    split at h
    · rename_i h0
      rcases List.mem_cons.1 hp with rfl | hp
      · unfold pairE at h0
        split at h0
        · contradiction
        rename_i hn
        have hi : isNo l p.1 := Classical.byContradiction fun h => hn (.inl h)
        have hk : (l.getD p.1.toNat default).k = 3 := Classical.byContradiction fun h => hn (.inr (.inr h))
        refine kindF_mem.2 ⟨p.1.toNat, hi.2, ?_, ?_⟩
        · have := hi.1; omega
        · rw [List.getD_eq_getElem?_getD, List.getElem?_eq_getElem hi.2] at hk
          rw [List.getElem?_eq_getElem hi.2]
          simpa using hk
      · exact pair_state h p hp
    · contradiction
theorem mem_hasP {ps : List (Int × Int)} {s : Int} (h : s ∈ ps.map (·.1)) : hasP ps s = true := by
  obtain ⟨p, hp, rfl⟩ := List.mem_map.1 h
  exact List.any_eq_true.2 ⟨p, hp, decide_eq_true rfl⟩
theorem next_all {m : Md} (h : checkE m = 0) : ∀ s ∈ kindL m.nodes 3, hasP m.nexts s = true := by
  intro s hs
  refine mem_hasP (Classical.byContradiction fun hn => ?_)
  obtain ⟨hp, hk⟩ := check_parts h
  have hle : (kindL m.nodes 3).length ≤ m.nexts.length := by
    unfold marksE at hk
    split at hk
    · contradiction
    · omega
  have hz : pairsE m.nodes (hangF [] m.nodes) false m.nexts = 0 := by
    unfold pairsAll at hp
    split at hp
    · contradiction
    split at hp
    · contradiction
    rename_i h2
    exact Classical.byContradiction h2
  have hd : (s :: m.nexts.map (·.1)).Nodup := List.nodup_cons.2 ⟨hn, (good_of h).nod2⟩
  have := List.Nodup.length_le_of_subset hd (l₂ := kindL m.nodes 3) (fun a ha => by
    rcases List.mem_cons.1 ha with rfl | ha
    · exact hs
    · obtain ⟨p, hp, rfl⟩ := List.mem_map.1 ha
      exact pair_state hz p hp)
  simp at this
  omega
theorem marks_no {m : Md} (h : checkE m = 0) : ∀ a ∈ m.bads ++ m.holds, isNo m.nodes a := by
  obtain ⟨-, hk⟩ := check_parts h
  unfold marksE at hk
  split at hk
  · contradiction
  split at hk
  · contradiction
  rename_i h2
  intro a ha
  exact Classical.byContradiction fun hn => h2 (List.any_eq_true.2 ⟨a, ha, by simp [hn]⟩)
theorem marks_len {m : Md} (h : checkE m = 0) : m.bads.length ≤ 8 ∧ m.holds.length ≤ 8 := by
  unfold checkE at h
  split at h
  · contradiction
  omega
def nextF (V : List Int) (ps : List (Int × Int)) (st : List Int) : List Int := st.map fun s => V.getD (pairOf ps s).toNat 0
def nextL (m : Md) (V : List Int) : List Int := nextF V m.nexts (kindL m.nodes 3)
theorem nextF_cons (V : List Int) (ps : List (Int × Int)) (s : Int) (st : List Int) : nextF V ps (s :: st) = V.getD (pairOf ps s).toNat 0 :: nextF V ps st := rfl
section
variable {m : Md} {gh : List GObj}
theorem Next_loop1 {V : List Int} {ps : List (Int × Int)} (hl : Sz ps.length) (hn : (ps.map (·.1)).Nodup) (hp : ∀ p ∈ ps, 0 ≤ p.2 ∧ p.2.toNat < V.length) : ∀ k i, i + k = ps.length →
    runL pg f_eval_Next_l1 ⟨[(1, LI V), (2, .ptr false 0 0), (5, .mp gh.length), (13, LP ps), (14, I ps.length), (15, I (i : Int))], [[LN m.nodes, LP m.inits, LP m.nexts, LI m.bads, LI m.holds]], gh ++ [.map (mapI (byM V (ps.take i)))]⟩ =
      some (.normal, ⟨[(2, .ptr false 0 0), (5, .mp gh.length)], [[LN m.nodes, LP m.inits, LP m.nexts, LI m.bads, LI m.holds]], gh ++ [.map (mapI (byM V ps))]⟩)
  | 0, i, h => by
    rw [List.take_of_length_le (by omega)]
    have hlt : ¬ (i : Int) < (ps.length : Int) := by omega
    refine (lp_exit (s1 := ?s1) (D_eval_Next_b1_ok ?h1)).trans ?r1
    case h1 => simp only [D_eval_Next_b1, decide_eq_false hlt, br_false]; rfl
    case r1 => simp [keep, stays]
  | k + 1, i, h => by
    have hlt : i < ps.length := by omega
    have hltI : (i : Int) < (ps.length : Int) := by omega
    have e2 : IntKind.i64.wrap ((i : Int) + 1) = ((i + 1 : Nat) : Int) := wrap_nat (by simp only [Sz] at hl ⊢; omega)
    have hg : (ps.map andV)[i]? = some (andV ps[i]) := by simp [List.getElem?_eq_getElem hlt]
    have hs := byM_step (V := V) hn hlt
    obtain ⟨q0, q1⟩ := hp _ (List.getElem_mem hlt)
    have hv := vget q1
    refine lp_next (s1 := ⟨[(1, LI V), (2, .ptr false 0 0), (5, .mp gh.length), (13, LP ps), (14, I ps.length), (15, I ((i + 1 : Nat) : Int))], [[LN m.nodes, LP m.inits, LP m.nexts, LI m.bads, LI m.holds]], gh ++ [GObj.map (mapI (byM V (ps.take (i + 1))))]⟩) (D_eval_Next_b1_ok ?_) (Next_loop1 hl hn hp k (i + 1) (by omega))
    generalize ps[i] = p at *
    rw [andV_def] at hg
    generalize V.getD p.2.toNat 0 = v at *
    generalize byM V (ps.take (i + 1)) = M2 at *
    generalize byM V (ps.take i) = M1 at *
    have hmu := fun f => muX_last (R := IExit × St) gh M1 p.1 v f
    rw [hs] at hmu
    simp [D_eval_Next_b1, hltI, hg, q0, hv, e2, hmu, -List.getElem?_map, -lkX_mp, -muX_mp]
theorem Next_loop2 {V st : List Int} {ps : List (Int × Int)} (hl : st.length ≤ 1000) (hall : ∀ s ∈ st, hasP ps s = true) : ∀ k i acc, i + k = st.length → acc.length ≤ i →
    runL pg f_eval_Next_l2 ⟨[(5, .mp gh.length), (8, .sl true 1 (acc.map I)), (29, LI st), (30, I st.length), (31, I (i : Int))], [], gh ++ [.map (mapI (byM V ps))]⟩ =
      some (.normal, ⟨[(8, .sl true 1 ((acc ++ nextF V ps (st.drop i)).map I))], [], gh ++ [.map (mapI (byM V ps))]⟩)
  | 0, i, acc, h, _ => by
    rw [List.drop_eq_nil_of_le (by omega)]
    have hlt : ¬ (i : Int) < (st.length : Int) := by omega
    refine (lp_exit (s1 := ?s1) (D_eval_Next_b2_ok ?h1)).trans ?r1
    case h1 => simp only [D_eval_Next_b2, decide_eq_false hlt, br_false]; rfl
    case r1 => simp [keep, stays, nextF]
  | k + 1, i, acc, h, ha => by
    have hlt : i < st.length := by omega
    have hltI : (i : Int) < (st.length : Int) := by omega
    have e2 : IntKind.i64.wrap ((i : Int) + 1) = ((i + 1 : Nat) : Int) := by rw [wrap_id (by omega) (by omega)]; omega
    have hg : (st.map I)[i]? = some (I st[i]) := by simp [List.getElem?_eq_getElem hlt]
    have hmx : ((acc.map I).length + 1) * 8 ≤ maxBytes := by
      have : maxBytes = 140737488355328 := rfl
      simp; omega
    have hf := findI_byM (V := V) (ps := ps) (s := st[i])
    rw [hall _ (List.getElem_mem hlt), if_pos rfl] at hf
    rw [List.drop_eq_getElem_cons hlt, nextF_cons, List.append_cons acc]
    refine lp_next (s1 := ⟨[(5, .mp gh.length), (8, .sl true 1 ((acc ++ [V.getD (pairOf ps st[i]).toNat 0]).map I)), (29, LI st), (30, I st.length), (31, I ((i + 1 : Nat) : Int))], [], gh ++ [GObj.map (mapI (byM V ps))]⟩) (D_eval_Next_b2_ok ?_) (Next_loop2 hl hall k (i + 1) _ (by omega) (by simp; omega))
    rw [map_snoc]
    generalize acc.map I = A at *
    generalize byM V ps = M at *
    generalize V.getD (pairOf ps st[i]).toNat 0 = v at *
    generalize st[i] = a at *
    have hlk := fun f => lkX_last (R := IExit × St) gh M a f
    rw [hf] at hlk
    simp [D_eval_Next_b2, hltI, hg, hlk, hmx, e2, -List.getElem?_map, -lkX_mp]
theorem nexts_in {m : Md} {V : List Int} (hm : MdGood m) (hV : V.length = m.nodes.length) : ∀ p ∈ m.nexts, 0 ≤ p.2 ∧ p.2.toNat < V.length := fun p hp => by
  have := (hm.pairs p (List.mem_append.2 (.inr hp))).2
  rw [hV]
  exact this
theorem Next_eq {V : List Int} (h : checkE m = 0) (hV : V.length = m.nodes.length) : callL pg 140 [modelV m, LI V] gh = some (LI (nextL m V), gh) := by
  have hm := good_of h
  have hl := hm.len
  have hpl := (pairs_len hm).2
  have o3 := Ofk_eq (m := m) (gh := gh ++ [GObj.map (mapI (byM V m.nexts))]) (kind := 3) (by omega)
  have l3 := kind_len hm 3
  have h1 := Next_loop1 (m := m) (gh := gh) (V := V) (by simp only [Sz]; omega) hm.nod2 (nexts_in hm hV) m.nexts.length 0 (by omega)
  have h2 := Next_loop2 (gh := gh) (V := V) (ps := m.nexts) (by omega) (next_all h) (kindL m.nodes 3).length 0 [] (by omega) (by simp)
  rw [List.drop_zero, List.nil_append] at h2
  simp only [List.take_zero, List.map_nil, Int.natCast_zero] at h1 h2
  change runL pg f_eval_Next_l1 ⟨_, _, gh ++ [GObj.map []]⟩ = _ at h1
  change runL pg f_eval_Next_l2 _ = some (_, ⟨[(_, .sl true 1 ((nextL m V).map I))], _, _⟩) at h2
  have hn := noGs_ints (nextL m V)
  generalize nextL m V = F at *
  generalize mapI (byM V m.nexts) = MM at *
  have k2 : runL pg f_eval_Next_k2 ⟨[(8, .sl true 1 (F.map I))], [], gh ++ [GObj.map MM]⟩ = some (.ret, ⟨[(4, .sl false 1 (F.map I))], [], gh ++ [GObj.map MM]⟩) := by
    refine D_eval_Next_k2_ok ?_
    simp [D_eval_Next_k2]
  rw [modelV_def] at *
  have k1 : runL pg f_eval_Next_k1 ⟨[(2, .ptr false 0 0), (5, .mp gh.length)], [[LN m.nodes, LP m.inits, LP m.nexts, LI m.bads, LI m.holds]], gh ++ [GObj.map MM]⟩ = some (.ret, ⟨[(4, .sl false 1 (F.map I))], [], gh ++ [GObj.map MM]⟩) := by
    refine D_eval_Next_k1_ok ?_
    simp [D_eval_Next_k1, o3, h2, k2]
  refine callL_fn (fn := f_eval_Next) (s := ⟨[(4, .sl false 1 (F.map I))], [], gh ++ [GObj.map MM]⟩) rfl rfl (D_eval_Next_0_ok ?h1) ?r1
  case h1 => simp [D_eval_Next_0, h1, k1]
  case r1 => simp [finish, results, f_eval_Next, resOfs, resOf, resOk, hn]
theorem NO_loop {V st : List Int} (hl : st.length ≤ 1000) (hs : Sz m.nexts.length) (hp : ∀ p ∈ m.nexts, 0 ≤ p.2 ∧ p.2.toNat < V.length) (hall : ∀ s ∈ st, hasP m.nexts s = true) : ∀ k i acc, i + k = st.length → acc.length ≤ i →
    runL pg f_ref_NextOf_l1 ⟨[(1, LI V), (2, .ptr false 0 0), (5, LI st), (6, .sl true 1 (acc.map I)), (7, I (i : Int))], [[LN m.nodes, LP m.inits, LP m.nexts, LI m.bads, LI m.holds]], gh⟩ =
      some (.normal, ⟨[(6, .sl true 1 ((acc ++ nextF V m.nexts (st.drop i)).map I))], [], gh⟩)
  | 0, i, acc, h, _ => by
    rw [List.drop_eq_nil_of_le (by omega)]
    have hlt : ¬ i < st.length := by omega
    refine (lp_exit (s1 := ?s1) (D_ref_NextOf_b1_ok ?h1)).trans ?r1
    case h1 => simp [D_ref_NextOf_b1, hlt]; rfl
    case r1 => simp [keep, stays, nextF]
  | k + 1, i, acc, h, ha => by
    have hlt : i < st.length := by omega
    have hltD : decide (i < st.length) = true := decide_eq_true hlt
    have e2 : IntKind.i64.wrap ((i : Int) + 1) = ((i + 1 : Nat) : Int) := by rw [wrap_id (by omega) (by omega)]; omega
    have hg : (st.map I)[i]? = some (I st[i]) := by simp [List.getElem?_eq_getElem hlt]
    have hmx : ((acc.map I).length + 1) * 8 ≤ maxBytes := by
      have : maxBytes = 140737488355328 := rfl
      simp; omega
    rw [List.drop_eq_getElem_cons hlt, nextF_cons, List.append_cons acc]
    refine lp_next (s1 := ⟨[(1, LI V), (2, .ptr false 0 0), (5, LI st), (6, .sl true 1 ((acc ++ [V.getD (pairOf m.nexts st[i]).toNat 0]).map I)), (7, I ((i + 1 : Nat) : Int))], [[LN m.nodes, LP m.inits, LP m.nexts, LI m.bads, LI m.holds]], gh⟩) (D_ref_NextOf_b1_ok ?_) (NO_loop hl hs hp hall k (i + 1) _ (by omega) (by simp; omega))
    have hc := PairOf_eq (gh := gh) (s := st[i]) hs
    have hh := hall _ (List.getElem_mem hlt)
    rw [map_snoc]
    generalize acc.map I = A at *
    generalize st[i] = a at *
    have hq := hp _ (pairOf_mem hh)
    have hv := vget hq.2
    have h0 := hq.1
    simp only at h0 hv
    generalize V.getD (pairOf m.nexts a).toNat 0 = v at *
    generalize pairOf m.nexts a = n at *
    simp [D_ref_NextOf_b1, hltD, hg, hc, h0, hv, hmx, e2, -List.getElem?_map]
theorem NextOf_eq {V : List Int} (h : checkE m = 0) (hV : V.length = m.nodes.length) : callL pg 133 [modelV m, LI V] gh = some (LI (nextL m V), gh) := by
  have hm := good_of h
  have hl := hm.len
  have hpl := (pairs_len hm).2
  have o3 := RNodes_eq (m := m) (gh := gh) (kind := 3) (by omega)
  have l3 := kind_len hm 3
  have h1 := NO_loop (m := m) (gh := gh) (V := V) (by omega) (by simp only [Sz]; omega) (nexts_in hm hV) (next_all h) (kindL m.nodes 3).length 0 [] (by omega) (by simp)
  rw [List.drop_zero, List.nil_append] at h1
  simp only [List.map_nil, Int.natCast_zero] at h1
  change runL pg f_ref_NextOf_l1 _ = some (_, ⟨[(_, .sl true 1 ((nextL m V).map I))], _, _⟩) at h1
  have hn := noGs_ints (nextL m V)
  simp only [LI] at h1 o3 hn ⊢
  generalize (nextL m V).map I = F at *
  generalize (kindL m.nodes 3).map I = K3 at *
  have k1 := D_ref_NextOf_k1_ok (pg := pg) (gh := gh) (v6 := .sl true 1 F) (e := .ret) (s := ⟨[(4, .sl false 1 F)], [], gh⟩) (by simp [D_ref_NextOf_k1])
  rw [modelV_def] at *
  refine callL_fn (fn := f_ref_NextOf) (s := ⟨[(4, .sl false 1 F)], [], gh⟩) rfl rfl (D_ref_NextOf_0_ok ?h1) ?r1
  case h1 => simp [D_ref_NextOf_0, o3, h1, k1]
  case r1 => simp [finish, results, f_ref_NextOf, resOfs, resOf, resOk, hn]
def isOne (V : List Int) (a : Int) : Bool := decide (V.getD a.toNat 0 = 1)
theorem Marks_loop1 {V l : List Int} {b7 : Bool} (hl : l.length ≤ 1000) (hp : ∀ a ∈ l, 0 ≤ a ∧ a.toNat < V.length) : ∀ k i b6, i + k = l.length →
    runL pg f_eval_Marks_l1 ⟨[(1, LI V), (2, .ptr false 0 0), (6, B b6), (7, B b7), (13, LI l), (14, I l.length), (15, I (i : Int))], [[LN m.nodes, LP m.inits, LP m.nexts, LI m.bads, LI m.holds]], gh⟩ =
      some (.normal, ⟨[(1, LI V), (2, .ptr false 0 0), (6, B (b6 && (l.drop i).all (isOne V))), (7, B b7)], [[LN m.nodes, LP m.inits, LP m.nexts, LI m.bads, LI m.holds]], gh⟩)
  | 0, i, b6, h => by
    rw [List.drop_eq_nil_of_le (by omega)]
    have hlt : ¬ (i : Int) < (l.length : Int) := by omega
    refine (lp_exit (s1 := ?s1) (D_eval_Marks_b1_ok ?h1)).trans ?r1
    case h1 => simp only [D_eval_Marks_b1, decide_eq_false hlt, br_false]; rfl
    case r1 => simp [keep, stays]
  | k + 1, i, b6, h => by
    have hlt : i < l.length := by omega
    have hltI : (i : Int) < (l.length : Int) := by omega
    have e2 : IntKind.i64.wrap ((i : Int) + 1) = ((i + 1 : Nat) : Int) := by rw [wrap_id (by omega) (by omega)]; omega
    have hg : (l.map I)[i]? = some (I l[i]) := by simp [List.getElem?_eq_getElem hlt]
    obtain ⟨q0, q1⟩ := hp _ (List.getElem_mem hlt)
    have hv := vget q1
    rw [List.drop_eq_getElem_cons hlt, List.all_cons, ← Bool.and_assoc]
    refine lp_next (s1 := ⟨[(1, LI V), (2, .ptr false 0 0), (6, B (b6 && isOne V l[i])), (7, B b7), (13, LI l), (14, I l.length), (15, I ((i + 1 : Nat) : Int))], [[LN m.nodes, LP m.inits, LP m.nexts, LI m.bads, LI m.holds]], gh⟩) (D_eval_Marks_b1_ok ?_) (Marks_loop1 hl hp k (i + 1) _ (by omega))
    unfold isOne
    generalize l[i] = a at *
    generalize V.getD a.toNat 0 = v at *
    cases b6
    · simp [D_eval_Marks_b1, hltI, hg, e2, -List.getElem?_map]
    · simp [D_eval_Marks_b1, hltI, hg, q0, hv, e2, -List.getElem?_map]
theorem Marks_loop2 {V l : List Int} {b6 : Bool} (hl : l.length ≤ 1000) (hp : ∀ a ∈ l, 0 ≤ a ∧ a.toNat < V.length) : ∀ k i b7, i + k = l.length →
    runL pg f_eval_Marks_l2 ⟨[(1, LI V), (6, B b6), (7, B b7), (29, LI l), (30, I l.length), (31, I (i : Int))], [], gh⟩ =
      some (.normal, ⟨[(6, B b6), (7, B (b7 || (l.drop i).any (isOne V)))], [], gh⟩)
  | 0, i, b7, h => by
    rw [List.drop_eq_nil_of_le (by omega)]
    have hlt : ¬ (i : Int) < (l.length : Int) := by omega
    refine (lp_exit (s1 := ?s1) (D_eval_Marks_b2_ok ?h1)).trans ?r1
    case h1 => simp only [D_eval_Marks_b2, decide_eq_false hlt, br_false]; rfl
    case r1 => simp [keep, stays]
  | k + 1, i, b7, h => by
    have hlt : i < l.length := by omega
    have hltI : (i : Int) < (l.length : Int) := by omega
    have e2 : IntKind.i64.wrap ((i : Int) + 1) = ((i + 1 : Nat) : Int) := by rw [wrap_id (by omega) (by omega)]; omega
    have hg : (l.map I)[i]? = some (I l[i]) := by simp [List.getElem?_eq_getElem hlt]
    obtain ⟨q0, q1⟩ := hp _ (List.getElem_mem hlt)
    have hv := vget q1
    rw [List.drop_eq_getElem_cons hlt, List.any_cons, ← Bool.or_assoc]
    refine lp_next (s1 := ⟨[(1, LI V), (6, B b6), (7, B (b7 || isOne V l[i])), (29, LI l), (30, I l.length), (31, I ((i + 1 : Nat) : Int))], [], gh⟩) (D_eval_Marks_b2_ok ?_) (Marks_loop2 hl hp k (i + 1) _ (by omega))
    unfold isOne
    generalize l[i] = a at *
    generalize V.getD a.toNat 0 = v at *
    cases b7
    · simp [D_eval_Marks_b2, hltI, hg, q0, hv, e2, -List.getElem?_map]
    · simp [D_eval_Marks_b2, hltI, hg, e2, -List.getElem?_map]
def holdsB (m : Md) (V : List Int) : Bool := m.holds.all (isOne V)
def badB (m : Md) (V : List Int) : Bool := m.bads.any (isOne V)
theorem marks_in {m : Md} {V : List Int} (h : checkE m = 0) (hV : V.length = m.nodes.length) : (∀ a ∈ m.bads, 0 ≤ a ∧ a.toNat < V.length) ∧ (∀ a ∈ m.holds, 0 ≤ a ∧ a.toNat < V.length) := by
  rw [hV]
  exact ⟨fun a ha => marks_no h a (List.mem_append.2 (.inl ha)), fun a ha => marks_no h a (List.mem_append.2 (.inr ha))⟩
theorem Marks_eq {V : List Int} (h : checkE m = 0) (hV : V.length = m.nodes.length) : callL pg 141 [modelV m, LI V] gh = some (.tup [B (holdsB m V), B (badB m V)], gh) := by
  obtain ⟨lb, lh⟩ := marks_len h
  obtain ⟨ib, ih⟩ := marks_in h hV
  have h1 := Marks_loop1 (m := m) (gh := gh) (b7 := false) (by omega) ih m.holds.length 0 true (by omega)
  rw [List.drop_zero, Bool.true_and] at h1
  change runL pg f_eval_Marks_l1 _ = some (_, ⟨[_, _, (_, B (holdsB m V)), _], _, _⟩) at h1
  have h2 := Marks_loop2 (gh := gh) (b6 := holdsB m V) (by omega) ib m.bads.length 0 false (by omega)
  rw [List.drop_zero, Bool.false_or] at h2
  change runL pg f_eval_Marks_l2 _ = some (_, ⟨[_, (_, B (badB m V))], _, _⟩) at h2
  simp only [Int.natCast_zero] at h1 h2
  generalize holdsB m V = b at *
  generalize badB m V = c at *
  have k2 := D_eval_Marks_k2_ok (pg := pg) (gh := gh) (b6 := b) (b7 := c) rfl
  have k1 : runL pg f_eval_Marks_k1 ⟨[(1, LI V), (2, .ptr false 0 0), (6, B b), (7, B false)], [[LN m.nodes, LP m.inits, LP m.nexts, LI m.bads, LI m.holds]], gh⟩ = some (.ret, ⟨[(4, B b), (5, B c)], [], gh⟩) := by
    refine D_eval_Marks_k1_ok ?_
    simp [D_eval_Marks_k1, h2, k2]
  rw [modelV_def]
  refine callL_fn (fn := f_eval_Marks) (s := ⟨[(4, B b), (5, B c)], [], gh⟩) rfl rfl (D_eval_Marks_0_ok ?h1) ?r1
  case h1 => simp [D_eval_Marks_0, h1, k1]
  case r1 => simp [finish, results, f_eval_Marks, resOfs, resOf, resOk]
theorem MO_loop1 {V : List Int} {b7 : Bool} (hl : m.holds.length ≤ 1000) (hp : ∀ a ∈ m.holds, 0 ≤ a ∧ a.toNat < V.length) : ∀ k i b6, i + k = m.holds.length →
    runL pg f_ref_MarksOf_l1 ⟨[(1, LI V), (2, .ptr false 0 0), (6, B b6), (7, B b7), (8, I (i : Int))], [[LN m.nodes, LP m.inits, LP m.nexts, LI m.bads, LI m.holds]], gh⟩ =
      some (.normal, ⟨[(1, LI V), (2, .ptr false 0 0), (6, B (b6 && (m.holds.drop i).all (isOne V))), (7, B b7)], [[LN m.nodes, LP m.inits, LP m.nexts, LI m.bads, LI m.holds]], gh⟩)
  | 0, i, b6, h => by
    rw [List.drop_eq_nil_of_le (by omega)]
    have hlt : ¬ i < m.holds.length := by omega
    refine (lp_exit (s1 := ?s1) (D_ref_MarksOf_b1_ok ?h1)).trans ?r1
    case h1 => simp [D_ref_MarksOf_b1, hlt]; rfl
    case r1 => simp [keep, stays]
  | k + 1, i, b6, h => by
    have hlt : i < m.holds.length := by omega
    have hltD : decide (i < m.holds.length) = true := decide_eq_true hlt
    have e2 : IntKind.i64.wrap ((i : Int) + 1) = ((i + 1 : Nat) : Int) := by rw [wrap_id (by omega) (by omega)]; omega
    have hg : (m.holds.map I)[i]? = some (I m.holds[i]) := by simp [List.getElem?_eq_getElem hlt]
    obtain ⟨q0, q1⟩ := hp _ (List.getElem_mem hlt)
    have hv := vget q1
    rw [List.drop_eq_getElem_cons hlt, List.all_cons, ← Bool.and_assoc]
    refine lp_next (s1 := ⟨[(1, LI V), (2, .ptr false 0 0), (6, B (b6 && isOne V m.holds[i])), (7, B b7), (8, I ((i + 1 : Nat) : Int))], [[LN m.nodes, LP m.inits, LP m.nexts, LI m.bads, LI m.holds]], gh⟩) (D_ref_MarksOf_b1_ok ?_) (MO_loop1 hl hp k (i + 1) _ (by omega))
    unfold isOne
    generalize m.holds[i] = a at *
    generalize V.getD a.toNat 0 = v at *
    cases b6
    · simp [D_ref_MarksOf_b1, hltD, e2, -List.getElem?_map]
    · simp [D_ref_MarksOf_b1, hltD, hg, q0, hv, e2, -List.getElem?_map]
theorem MO_loop2 {V : List Int} {b6 : Bool} (hl : m.bads.length ≤ 1000) (hp : ∀ a ∈ m.bads, 0 ≤ a ∧ a.toNat < V.length) : ∀ k i b7, i + k = m.bads.length →
    runL pg f_ref_MarksOf_l2 ⟨[(1, LI V), (2, .ptr false 0 0), (6, B b6), (7, B b7), (9, I (i : Int))], [[LN m.nodes, LP m.inits, LP m.nexts, LI m.bads, LI m.holds]], gh⟩ =
      some (.normal, ⟨[(6, B b6), (7, B (b7 || (m.bads.drop i).any (isOne V)))], [], gh⟩)
  | 0, i, b7, h => by
    rw [List.drop_eq_nil_of_le (by omega)]
    have hlt : ¬ i < m.bads.length := by omega
    refine (lp_exit (s1 := ?s1) (D_ref_MarksOf_b2_ok ?h1)).trans ?r1
    case h1 => simp [D_ref_MarksOf_b2, hlt]; rfl
    case r1 => simp [keep, stays]
  | k + 1, i, b7, h => by
    have hlt : i < m.bads.length := by omega
    have hltD : decide (i < m.bads.length) = true := decide_eq_true hlt
    have e2 : IntKind.i64.wrap ((i : Int) + 1) = ((i + 1 : Nat) : Int) := by rw [wrap_id (by omega) (by omega)]; omega
    have hg : (m.bads.map I)[i]? = some (I m.bads[i]) := by simp [List.getElem?_eq_getElem hlt]
    obtain ⟨q0, q1⟩ := hp _ (List.getElem_mem hlt)
    have hv := vget q1
    rw [List.drop_eq_getElem_cons hlt, List.any_cons, ← Bool.or_assoc]
    refine lp_next (s1 := ⟨[(1, LI V), (2, .ptr false 0 0), (6, B b6), (7, B (b7 || isOne V m.bads[i])), (9, I ((i + 1 : Nat) : Int))], [[LN m.nodes, LP m.inits, LP m.nexts, LI m.bads, LI m.holds]], gh⟩) (D_ref_MarksOf_b2_ok ?_) (MO_loop2 hl hp k (i + 1) _ (by omega))
    unfold isOne
    generalize m.bads[i] = a at *
    generalize V.getD a.toNat 0 = v at *
    cases b7
    · simp [D_ref_MarksOf_b2, hltD, hg, q0, hv, e2, -List.getElem?_map]
    · simp [D_ref_MarksOf_b2, hltD, e2, -List.getElem?_map]
theorem MarksOf_eq {V : List Int} (h : checkE m = 0) (hV : V.length = m.nodes.length) : callL pg 134 [modelV m, LI V] gh = some (.tup [B (holdsB m V), B (badB m V)], gh) := by
  obtain ⟨lb, lh⟩ := marks_len h
  obtain ⟨ib, ih⟩ := marks_in h hV
  have h1 := MO_loop1 (m := m) (gh := gh) (b7 := false) (by omega) ih m.holds.length 0 true (by omega)
  rw [List.drop_zero, Bool.true_and] at h1
  change runL pg f_ref_MarksOf_l1 _ = some (_, ⟨[_, _, (_, B (holdsB m V)), _], _, _⟩) at h1
  have h2 := MO_loop2 (m := m) (gh := gh) (b6 := holdsB m V) (by omega) ib m.bads.length 0 false (by omega)
  rw [List.drop_zero, Bool.false_or] at h2
  change runL pg f_ref_MarksOf_l2 _ = some (_, ⟨[_, (_, B (badB m V))], _, _⟩) at h2
  simp only [Int.natCast_zero] at h1 h2
  generalize holdsB m V = b at *
  generalize badB m V = c at *
  have k2 := D_ref_MarksOf_k2_ok (pg := pg) (gh := gh) (b6 := b) (b7 := c) rfl
  have k1 : runL pg f_ref_MarksOf_k1 ⟨[(1, LI V), (2, .ptr false 0 0), (6, B b), (7, B false)], [[LN m.nodes, LP m.inits, LP m.nexts, LI m.bads, LI m.holds]], gh⟩ = some (.ret, ⟨[(4, B b), (5, B c)], [], gh⟩) := by
    refine D_ref_MarksOf_k1_ok ?_
    simp [D_ref_MarksOf_k1, h2, k2]
  rw [modelV_def]
  refine callL_fn (fn := f_ref_MarksOf) (s := ⟨[(4, B b), (5, B c)], [], gh⟩) rfl rfl (D_ref_MarksOf_0_ok ?h1) ?r1
  case h1 => simp [D_ref_MarksOf_0, h1, k1]
  case r1 => simp [finish, results, f_ref_MarksOf, resOfs, resOf, resOk]
theorem ready_parts {ss ks : List Int} (h : readyE m ss ks = 0) : checkE m = 0 ∧ VGood m.nodes 0 [] ss ks := by
  unfold readyE at h
  split at h
  · contradiction
  rename_i h1
  split at h
  · contradiction
  rename_i h2
  exact ⟨Classical.byContradiction h1, good_start (Classical.byContradiction h2) h⟩
def valuesL (m : Md) (ss ks : List Int) : List Int := if readyE m ss ks = 0 then valsOf m ss ks else []
def stepL (m : Md) (ss ks : List Int) : List Int := if readyE m ss ks = 0 then nextL m (valsOf m ss ks) else []
def lookH (m : Md) (ss ks : List Int) : Bool := if readyE m ss ks = 0 then holdsB m (valsOf m ss ks) else false
def lookB (m : Md) (ss ks : List Int) : Bool := if readyE m ss ks = 0 then badB m (valsOf m ss ks) else false
theorem Values_eq {ss ks : List Int} (h1 : Sz m.inits.length) (h2 : Sz m.nexts.length) : callL pg 128 [modelV m, LI ss, LI ks] gh = some (.tup [LI (valuesL m ss ks), I (readyE m ss ks)], gh) := by
  have hr := ready_eq (m := m) (gh := gh) (ss := ss) (ks := ks) h1 h2
  unfold valuesL
  by_cases h : readyE m ss ks = 0
  · obtain ⟨hc, hg⟩ := ready_parts h
    have hv := RawE_eq (gh := gh) hc hg
    have hn := noGs_ints (valsOf m ss ks)
    rw [h] at hr ⊢
    rw [if_pos rfl]
    simp only [LI] at hv hn hr ⊢
    generalize (valsOf m ss ks).map I = V at *
    rw [modelV_def] at *
    refine callL_fn (fn := f_eval_Values) (s := ⟨[(6, .sl false 1 V), (7, I 0)], [], gh⟩) rfl rfl (D_eval_Values_0_ok ?h1) ?r1
    case h1 => simp [D_eval_Values_0, hr, hv]
    case r1 => simp [finish, results, f_eval_Values, resOfs, resOf, resOk, hn]
  · rw [if_neg h]
    generalize readyE m ss ks = e at *
    rw [modelV_def] at *
    refine callL_fn (fn := f_eval_Values) (s := ⟨[(6, .sl true 1 []), (7, I e)], [], gh⟩) rfl rfl (D_eval_Values_0_ok ?h2) ?r2
    case h2 => simp [D_eval_Values_0, hr, h]
    case r2 => simp [finish, results, f_eval_Values, resOfs, resOf, resOk]
theorem Step_eq {ss ks : List Int} (h1 : Sz m.inits.length) (h2 : Sz m.nexts.length) : callL pg 129 [modelV m, LI ss, LI ks] gh = some (.tup [LI (stepL m ss ks), I (readyE m ss ks)], gh) := by
  have hr := ready_eq (m := m) (gh := gh) (ss := ss) (ks := ks) h1 h2
  unfold stepL
  by_cases h : readyE m ss ks = 0
  · obtain ⟨hc, hg⟩ := ready_parts h
    have hv := RawE_eq (gh := gh) hc hg
    have hx := Next_eq (gh := gh) hc (valsOf_len (m := m) (ss := ss) (ks := ks))
    have hn := noGs_ints (nextL m (valsOf m ss ks))
    rw [h] at hr ⊢
    rw [if_pos rfl]
    simp only [LI] at hv hn hr hx ⊢
    generalize (nextL m (valsOf m ss ks)).map I = F at *
    generalize (valsOf m ss ks).map I = V at *
    rw [modelV_def] at *
    refine callL_fn (fn := f_eval_Step) (s := ⟨[(6, .sl false 1 F), (7, I 0)], [], gh⟩) rfl rfl (D_eval_Step_0_ok ?h1) ?r1
    case h1 => simp [D_eval_Step_0, hr, hv, hx]
    case r1 => simp [finish, results, f_eval_Step, resOfs, resOf, resOk, hn]
  · rw [if_neg h]
    generalize readyE m ss ks = e at *
    rw [modelV_def] at *
    refine callL_fn (fn := f_eval_Step) (s := ⟨[(6, .sl true 1 []), (7, I e)], [], gh⟩) rfl rfl (D_eval_Step_0_ok ?h2) ?r2
    case h2 => simp [D_eval_Step_0, hr, h]
    case r2 => simp [finish, results, f_eval_Step, resOfs, resOf, resOk]
theorem Look_eq {ss ks : List Int} (h1 : Sz m.inits.length) (h2 : Sz m.nexts.length) : callL pg 130 [modelV m, LI ss, LI ks] gh = some (.tup [B (lookH m ss ks), B (lookB m ss ks), I (readyE m ss ks)], gh) := by
  have hr := ready_eq (m := m) (gh := gh) (ss := ss) (ks := ks) h1 h2
  unfold lookH lookB
  by_cases h : readyE m ss ks = 0
  · obtain ⟨hc, hg⟩ := ready_parts h
    have hv := RawE_eq (gh := gh) hc hg
    have hx := Marks_eq (gh := gh) hc (valsOf_len (m := m) (ss := ss) (ks := ks))
    rw [h] at hr ⊢
    rw [if_pos rfl, if_pos rfl]
    generalize holdsB m (valsOf m ss ks) = b at *
    generalize badB m (valsOf m ss ks) = c at *
    simp only [LI] at hv hr hx ⊢
    generalize (valsOf m ss ks).map I = V at *
    rw [modelV_def] at *
    refine callL_fn (fn := f_eval_Look) (s := ⟨[(6, B b), (7, B c), (8, I 0)], [], gh⟩) rfl rfl (D_eval_Look_0_ok ?h1) ?r1
    case h1 => simp [D_eval_Look_0, hr, hv, hx]
    case r1 => simp [finish, results, f_eval_Look, resOfs, resOf, resOk]
  · rw [if_neg h, if_neg h]
    generalize readyE m ss ks = e at *
    rw [modelV_def] at *
    refine callL_fn (fn := f_eval_Look) (s := ⟨[(6, B false), (7, B false), (8, I e)], [], gh⟩) rfl rfl (D_eval_Look_0_ok ?h2) ?r2
    case h2 => simp [D_eval_Look_0, hr, h]
    case r2 => simp [finish, results, f_eval_Look, resOfs, resOf, resOk]
end
end Go.Lw
end

/-! What must be in any case of values of a model. -/
section
namespace Go.Lw
open Go
theorem toggle_begin : beginE toggleM [1] = 0 ∧ beginL toggleM [1] = [0] := by decide +kernel
theorem toggle_step : readyE toggleM [0] [] = 0 ∧ stepL toggleM [0] [] = [1] := by decide +kernel
theorem toggle_look : readyE toggleM [1] [] = 0 ∧ lookH toggleM [1] [] = true ∧ lookB toggleM [1] [] = true := by decide +kernel
theorem mdok_sizes {m : Md} (hm : MdOk m) : Sz m.inits.length ∧ Sz m.nexts.length := by
  have h1 := hm.inits
  have h2 := hm.nexts
  have : reachBytes = 140737488351232 := rfl
  simp only [Sz]; omega
theorem valuesL_sz {m : Md} {ss ks : List Int} : Sz (valuesL m ss ks).length := by
  unfold valuesL
  by_cases h : readyE m ss ks = 0
  · rw [if_pos h, valsOf_len]
    have := (good_of (ready_parts h).1).len
    simp only [Sz]; omega
  · rw [if_neg h]; simp
theorem stepL_sz {m : Md} {ss ks : List Int} : Sz (stepL m ss ks).length := by
  unfold stepL
  by_cases h : readyE m ss ks = 0
  · rw [if_pos h]
    have := kind_len (good_of (ready_parts h).1) 3
    unfold nextL nextF
    rw [List.length_map]
    simp only [Sz]; omega
  · rw [if_neg h]; simp
theorem evalBegun_eq {gh : List GObj} : callL pg 126 [] gh = some (B true, gh) := by
  have ht := toggle_eq (gh := gh)
  have hb := Begin_eq (m := toggleM) (gh := gh) (wish := [1]) (by decide) (by decide)
  have hs := Step_eq (m := toggleM) (gh := gh) (ss := [0]) (ks := []) (by decide) (by decide)
  have hk := Look_eq (m := toggleM) (gh := gh) (ss := [1]) (ks := []) (by decide) (by decide)
  rw [toggle_begin.1, toggle_begin.2] at hb
  rw [toggle_step.1, toggle_step.2] at hs
  rw [toggle_look.1, toggle_look.2.1, toggle_look.2.2] at hk
  simp only [LI, List.map_cons, List.map_nil] at hb hs hk
  rw [modelV_def] at *
  generalize toggleM.nodes.map nodeV = N at *
  generalize toggleM.inits.map andV = N1 at *
  generalize toggleM.nexts.map andV = N2 at *
  simp only [LI] at *
  generalize toggleM.bads.map I = N3 at *
  generalize toggleM.holds.map I = N4 at *
  refine callL_fn (fn := f_law_evalBegun) (s := ⟨[(0, B true)], [], gh⟩) rfl rfl (D_law_evalBegun_0_ok ?h1) ?r1
  case h1 => simp [D_law_evalBegun_0, ht, hb, hs, hk]
  case r1 => simp [finish, results, f_law_evalBegun, resOfs, resOf, resOk]
end Go.Lw
end

/-! The law EvalValues, of the machine: it answers true. -/
section
namespace Go.Lw
open Go
theorem EvalValues_eq {m : Md} {ss ks : List Int} {gh : List GObj} (hm : MdOk m) : callL pg 127 [modelV m, LI ss, LI ks] gh = some (B true, gh) := by
  obtain ⟨h1, h2⟩ := mdok_sizes hm
  have hv := Values_eq (m := m) (gh := gh) (ss := ss) (ks := ks) h1 h2
  have hs := Step_eq (m := m) (gh := gh) (ss := ss) (ks := ks) h1 h2
  have hk := Look_eq (m := m) (gh := gh) (ss := ss) (ks := ks) h1 h2
  have w := Ready_eq (m := m) (gh := gh) (ss := ss) (ks := ks) h1 h2
  have bg := evalBegun_eq (gh := gh)
  by_cases h0 : readyE m ss ks = 0
  · have z1 := valuesL_sz (m := m) (ss := ss) (ks := ks)
    have z2 := stepL_sz (m := m) (ss := ss) (ks := ks)
    obtain ⟨hc, hg⟩ := ready_parts h0
    have r1 := ValuesOf_eq (gh := gh) hc hg
    have r2 := NextOf_eq (gh := gh) hc (valsOf_len (m := m) (ss := ss) (ks := ks))
    have r3 := MarksOf_eq (gh := gh) hc (valsOf_len (m := m) (ss := ss) (ks := ks))
    have e1 : valuesL m ss ks = valsOf m ss ks := by unfold valuesL; rw [if_pos h0]
    have e2 : stepL m ss ks = nextL m (valsOf m ss ks) := by unfold stepL; rw [if_pos h0]
    have e3 : lookH m ss ks = holdsB m (valsOf m ss ks) := by unfold lookH; rw [if_pos h0]
    have e4 : lookB m ss ks = badB m (valsOf m ss ks) := by unfold lookB; rw [if_pos h0]
    have l1 := listIs_eq (gh := gh) (w := 0) z1 (fun _ => rfl) (fun h => absurd rfl h)
    have l2 := listIs_eq (gh := gh) (w := 0) z2 (fun _ => rfl) (fun h => absurd rfl h)
    rw [← e3, ← e4] at r3
    rw [← e2] at r2
    rw [← e1] at r1 r2 r3
    rw [h0] at hv hs hk w
    rw [modelV_def] at *
    simp only [LI] at *
    generalize (valuesL m ss ks).map I = V at *
    generalize (stepL m ss ks).map I = F at *
    generalize lookH m ss ks = b at *
    generalize lookB m ss ks = c at *
    have k1 : runL pg f_law_EvalValues_k1 ⟨[(7, .sl false 1 V), (8, I 0), (9, .sl false 1 F), (10, I 0), (11, B b), (12, B c), (13, I 0), (14, I 0), (15, .sl false 1 V), (16, .sl false 1 F), (17, B b), (18, B c)], [], gh⟩ = some (.ret, ⟨[(6, B true)], [], gh⟩) := by
      refine D_law_EvalValues_k1_ok ?_
      simp [D_law_EvalValues_k1, bg, l1, l2]
    refine callL_fn (fn := f_law_EvalValues) (s := ⟨[(6, B true)], [], gh⟩) rfl rfl (D_law_EvalValues_0_ok ?h1) ?r1
    case h1 => simp [D_law_EvalValues_0, hv, hs, hk, w, r1, r2, r3, k1]
    case r1 => simp [finish, results, f_law_EvalValues, resOfs, resOf, resOk]
  · have e1 : valuesL m ss ks = [] := by unfold valuesL; rw [if_neg h0]
    have e2 : stepL m ss ks = [] := by unfold stepL; rw [if_neg h0]
    have e3 : lookH m ss ks = false := by unfold lookH; rw [if_neg h0]
    have e4 : lookB m ss ks = false := by unfold lookB; rw [if_neg h0]
    have l1 := listIs_eq (gh := gh) (xs := []) (ys := []) (w := readyE m ss ks) (by simp) (fun _ => rfl) (fun _ => rfl)
    rw [e1] at hv
    rw [e2] at hs
    rw [e3, e4] at hk
    rw [modelV_def] at *
    simp only [LI, List.map_nil] at *
    generalize readyE m ss ks = e at *
    have k1 : runL pg f_law_EvalValues_k1 ⟨[(7, .sl false 1 []), (8, I e), (9, .sl false 1 []), (10, I e), (11, B false), (12, B false), (13, I e), (14, I e), (15, .sl true 1 []), (16, .sl true 1 []), (17, B false), (18, B false)], [], gh⟩ = some (.ret, ⟨[(6, B true)], [], gh⟩) := by
      refine D_law_EvalValues_k1_ok ?_
      simp [D_law_EvalValues_k1, bg, l1]
    refine callL_fn (fn := f_law_EvalValues) (s := ⟨[(6, B true)], [], gh⟩) rfl rfl (D_law_EvalValues_0_ok ?h2) ?r2
    case h2 => simp [D_law_EvalValues_0, hv, hs, hk, w, h0, k1]
    case r2 => simp [finish, results, f_law_EvalValues, resOfs, resOf, resOk]
abbrev insEvalValues : List (Bool × List CS) := [(true, modelC), (false, [.slice false 8 [.int]]), (false, [.slice false 8 [.int]])]
theorem evalValues_true (qs : List PV) (h : argsTy insEvalValues qs) : callL pg 127 qs [] = some (B true, []) := by
  obtain ⟨_, _, rfl, h0, h⟩ := argsTy_cons h
  obtain ⟨_, _, rfl, h1, h⟩ := argsTy_cons h
  obtain ⟨_, _, rfl, h2, h⟩ := argsTy_cons h
  obtain rfl := argsTy_nil h
  obtain ⟨m, rfl, hm⟩ := model_ty h0
  obtain ⟨ss, rfl, -, -⟩ := ints_ty h1
  obtain ⟨ks, rfl, -, -⟩ := ints_ty h2
  exact EvalValues_eq hm
end Go.Lw
end
