/-
  The texts that the proof stands on, part 14.
-/
import Derived.Test.YtmodipglnngghaaWordTurnsM
import Derived.OpenShut
import Derived.Carry
import Derived.Deep.Slices
import Derived.SizedLaws
set_option linter.unusedVariables false
set_option linter.unusedSimpArgs false
set_option linter.unnecessarySimpa false

/-! What is handed in from outside, opened: whatever the arguments are, they stand for values of the machine. -/
section
namespace Go.Lw
open Go Go.RowKit Go.ChangeShapes Go.WideShapes Go.Deep

/-- What a cell may hold. -/
inductive CS where
  | int
  | bool
  | str
  | slice (g : Bool) (bytes : Nat) (l : List CS)

mutual
def csOk : CS → PV → Prop
  | .int, p => ∃ n, p = .int .i64 n ∧ -9223372036854775808 ≤ n ∧ n ≤ 9223372036854775807
  | .bool, p => ∃ b, p = .bool b
  | .str, p => ∃ s, p = .str s ∧ s.size ≤ reachBytes
  | .slice g bytes l, p => ∃ xs, p = .sl false l.length xs ∧ xs.length * bytes ≤ reachBytes ∧ ∀ e ∈ xs, (g = true ∧ ∃ ps, e = .agg ps ∧ csAll l ps) ∨ (g = false ∧ csAll l [e])
def csAll : List CS → List PV → Prop
  | [], [] => True
  | c :: cs, p :: ps => csOk c p ∧ csAll cs ps
  | _, _ => False
end

theorem csAll_len : ∀ {l : List CS} {ps : List PV}, csAll l ps → ps.length = l.length
  | [], [], _ => rfl
  | _ :: _, _ :: _, h => by
    simp only [csAll] at h
    simp [csAll_len h.2]
  | [], _ :: _, h => by simp [csAll] at h
  | _ :: _, [], h => by simp [csAll] at h

theorem csAll_append : ∀ {l m : List CS} {ps qs : List PV}, csAll l ps → csAll m qs → csAll (l ++ m) (ps ++ qs)
  | [], _, [], _, _, h => h
  | _ :: _, _, _ :: _, _, h, h2 => by
    simp only [csAll] at h
    exact ⟨h.1, csAll_append h.2 h2⟩
  | [], _, _ :: _, _, h, _ => by simp [csAll] at h
  | _ :: _, _, [], _, h, _ => by simp [csAll] at h

theorem csOk_one {c : CS} {p : PV} (h : csOk c p) : p.one = true := by
  cases c <;> simp only [csOk] at h
  · obtain ⟨n, rfl, _⟩ := h; rfl
  · obtain ⟨b, rfl⟩ := h; rfl
  · obtain ⟨b, rfl, _⟩ := h; rfl
  · obtain ⟨xs, rfl, _⟩ := h; rfl

theorem csAll_one : ∀ {l : List CS} {ps : List PV}, csAll l ps → ps.all PV.one = true
  | [], [], _ => rfl
  | _ :: _, _ :: _, h => by
    simp only [csAll] at h
    simp [csOk_one h.1, csAll_one h.2]
  | [], _ :: _, h => by simp [csAll] at h
  | _ :: _, [], h => by simp [csAll] at h

theorem csAll_single {l : List CS} {p : PV} (h : csAll l [p]) : p.cells = [p] := by
  cases l with
  | nil => simp [csAll] at h
  | cons c l =>
    simp only [csAll] at h
    have h1 := h.1
    cases c <;> simp only [csOk] at h1
    · obtain ⟨n, rfl, _⟩ := h1; rfl
    · obtain ⟨b, rfl⟩ := h1; rfl
    · obtain ⟨b, rfl, _⟩ := h1; rfl
    · obtain ⟨xs, rfl, _⟩ := h1; rfl

def repN : Nat → List CS → List CS
  | 0, _ => []
  | n + 1, l => l ++ repN n l

theorem repN_len (n : Nat) (l : List CS) : (repN n l).length = n * l.length := by
  induction n with
  | zero => simp [repN]
  | succ n ih => rw [repN, List.length_append, ih, Nat.succ_mul]; omega

theorem cell_lt {w : World} {a : Addr} {v : Value} (h : w.cell? a = some v) : a.block < w.heap.size := by
  rcases Nat.lt_or_ge a.block w.heap.size with h1 | h1
  · exact h1
  · simp [World.cell?, Array.getElem?_eq_none h1] at h

def isAgg (P : Program) (t : TypeId) : Bool := match P.underlying t with | some (.struct _) | some (.array _ _) => true | _ => false

mutual
/-- The cells of a type. -/
def shape (P : Program) : Nat → TypeId → Option (List CS)
  | 0, _ => none
  | n + 1, t => match P.underlying t with
    | some .bool => some [.bool]
    | some (.int .i64) => some [.int]
    | some .string => some [.str]
    | some (.slice e) => match shape P n e with
      | some l => if P.cellsOf e = l.length ∧ (isAgg P e = true ∨ l.length = 1) ∧ 0 < l.length then some [.slice (isAgg P e) (P.bytesOf e) l] else none
      | none => none
    | some (.array k e) => match shape P n e with
      | some l => if P.cellsOf e = l.length ∧ P.cellsOf t = k * l.length then some (repN k l) else none
      | none => none
    | some (.struct fs) => match fieldsShape P n 0 fs.toList with
      | some l => if P.cellsOf t = l.length then some l else none
      | none => none
    | _ => none
def fieldsShape (P : Program) : Nat → Nat → List Field → Option (List CS)
  | 0, _, _ => none
  | _ + 1, _, [] => some []
  | n + 1, off, f :: fs => match shape P n f.type with
    | some l => if f.offset = off ∧ P.cellsOf f.type = l.length then (match fieldsShape P n (off + l.length) fs with | some r => some (l ++ r) | none => none) else none
    | none => none
end

/-- What is told of cells, one by one. -/
def Reps (fi : Nat → Option Nat) (w : World) (ps : List PV) (cs : List Value) : Prop := ps.length = cs.length ∧ ∀ (i : Nat) (p : PV) (v : Value), ps[i]? = some p → cs[i]? = some v → RepP fi (Mem.start w) w p v

section
variable {H : Type} {enc : TypeId × Value → H} {P : Program} {w : World} {sp : Nat → Bool} {held : Bool} {fi : Nat → Option Nat}

theorem Reps.append {ps qs : List PV} {cs ds : List Value} (h : Reps fi w ps cs) (k : Reps fi w qs ds) : Reps fi w (ps ++ qs) (cs ++ ds) := by
  refine ⟨by simp [h.1, k.1], fun i p v hp hv => ?_⟩
  by_cases hi : i < ps.length
  · rw [List.getElem?_append_left hi] at hp
    rw [List.getElem?_append_left (by rw [← h.1]; exact hi)] at hv
    exact h.2 i p v hp hv
  · rw [List.getElem?_append_right (by omega)] at hp
    rw [List.getElem?_append_right (by rw [← h.1]; omega)] at hv
    rw [← h.1] at hv
    exact k.2 _ p v hp hv

theorem Reps.single {p : PV} {v : Value} (h : RepP fi (Mem.start w) w p v) : Reps fi w [p] [v] := by
  refine ⟨rfl, fun i q u hq hu => ?_⟩
  cases i with
  | zero => simp at hq hu; subst hq; subst hu; exact h
  | succ i => simp at hq

theorem weightsAll_mem {e : TypeId} : ∀ {ds : List (DataW H)} {i : Nat} {d : DataW H} {b : Nat}, ds[i]? = some d → b ∈ d.weights P e → b ∈ DataW.weightsAll P e ds
  | x :: r, 0, d, b, h, hb => by
    simp at h; subst h
    rw [DataW.weightsAll]; exact List.mem_append_left _ hb
  | x :: r, i + 1, d, b, h, hb => by
    rw [DataW.weightsAll]
    exact List.mem_append_right _ (weightsAll_mem (i := i) (by simpa using h) hb)

theorem ex_list {Q : Nat → PV → Prop} : ∀ (n : Nat), (∀ i, i < n → ∃ e, Q i e) → ∃ xs : List PV, xs.length = n ∧ ∀ i e, xs[i]? = some e → Q i e
  | 0, _ => ⟨[], rfl, fun i e h => by simp at h⟩
  | n + 1, h => by
    obtain ⟨xs, hl, hx⟩ := ex_list n fun i hi => h i (by omega)
    obtain ⟨e, he⟩ := h n (by omega)
    refine ⟨xs ++ [e], by simp [hl], fun i u hu => ?_⟩
    by_cases hi : i < xs.length
    · rw [List.getElem?_append_left hi] at hu; exact hx i u hu
    · rw [List.getElem?_append_right (by omega)] at hu
      have : i = n := by
        have := (List.getElem?_eq_some_iff.1 hu).1
        simp at this; omega
      subst this
      rw [hl] at hu; simp at hu; subst hu; exact he

def TypeOk (fi : Nat → Option Nat) (enc : TypeId × Value → H) (P : Program) (w : World) (sp : Nat → Bool) (held : Bool) (t : TypeId) (l : List CS) : Prop :=
  ∀ fuel cs x, DataW.trod enc P w 0 sp held fuel t cs = some x → (∀ b ∈ x.1.weights P t, b ≤ reachBytes) → ∃ ps, csAll l ps ∧ Reps fi w ps cs

theorem arr_ok {e : TypeId} {l : List CS} (hok : TypeOk fi enc P w sp held e l) {m : Nat} {cs : List Value} {xs : List (DataW H × List MemPlace)}
    (hx : ∀ j, j < xs.length → DataW.trod enc P w 0 sp held m e ((cs.drop (j * l.length)).take l.length) = xs[j]?) (hw : ∀ b ∈ DataW.weightsAll P e (xs.map (·.1)), b ≤ reachBytes) :
    ∀ k i, i + k = xs.length → ∃ ps, csAll (repN k l) ps ∧ Reps fi w ps ((cs.drop (i * l.length)).take (k * l.length))
  | 0, i, _ => ⟨[], by simp [repN, csAll], by simp [Reps]⟩
  | k + 1, i, hi => by
    have hlt : i < xs.length := by omega
    have h1 := hx i hlt
    rw [List.getElem?_eq_getElem hlt] at h1
    obtain ⟨ps, hp, hr⟩ := hok _ _ _ h1 fun b hb => hw b (weightsAll_mem (i := i) (by simp [List.getElem?_eq_getElem hlt]) hb)
    obtain ⟨qs, hq, hs⟩ := arr_ok hok hx hw k (i + 1) (by omega)
    refine ⟨ps ++ qs, csAll_append hp hq, ?_⟩
    have : (cs.drop (i * l.length)).take ((k + 1) * l.length) = (cs.drop (i * l.length)).take l.length ++ (cs.drop ((i + 1) * l.length)).take (k * l.length) := by
      rw [Nat.succ_mul k, Nat.add_comm (k * l.length), List.take_add, List.drop_drop, Nat.succ_mul i]
    rw [this]
    exact hr.append hs

theorem fields_ok (n : Nat) (ih : ∀ k, k ≤ n → ∀ t l, shape P k t = some l → TypeOk fi enc P w sp held t l) :
    ∀ (k : Nat) (_ : k ≤ n + 1) (fs : List Field) (off : Nat) (l : List CS), fieldsShape P k off fs = some l → ∀ (cs : List Value) (xs : List (DataW H × List MemPlace)) (m : Nat), xs.length = fs.length →
      (∀ (i : Nat) (f : Field), fs[i]? = some f → DataW.trod enc P w 0 sp held m f.type ((cs.drop f.offset).take (P.cellsOf f.type)) = xs[i]?) →
      (∀ b ∈ DataW.weightsEach P (fs.map (·.type)) (xs.map (·.1)), b ≤ reachBytes) → ∃ ps, csAll l ps ∧ Reps fi w ps ((cs.drop off).take l.length)
  | 0, _, fs, off, l, h, _, _, _, _, _, _ => by simp [fieldsShape] at h
  | k + 1, _, [], off, l, h, cs, xs, m, hl, hx, hw => by
    simp [fieldsShape] at h; subst h
    exact ⟨[], by simp [csAll], by simp [Reps]⟩
  | k + 1, hk, f :: fs, off, l, h, cs, xs, m, hl, hx, hw => by
    cases xs with
    | nil => simp at hl
    | cons x xs =>
      rw [fieldsShape] at h
      split at h
      · rename_i l1 hs1
        split at h
        · rename_i hc
          split at h
          · rename_i r hr
            simp at h; subst h
            have h0 := hx 0 f (by simp)
            simp only [List.getElem?_cons_zero] at h0
            rw [hc.1, hc.2] at h0
            obtain ⟨ps, hp, hrp⟩ := ih k (by omega) _ _ hs1 _ _ _ h0 fun b hb => hw b (by
              simp only [List.map_cons, DataW.weightsEach]; exact List.mem_append_left _ hb)
            obtain ⟨qs, hq, hrq⟩ := fields_ok n ih k (by omega) fs (off + l1.length) r hr cs xs m (by simpa using hl) (fun i g hg => by simpa using hx (i + 1) g (by simpa using hg)) (fun b hb => hw b (by
              simp only [List.map_cons, DataW.weightsEach]; exact List.mem_append_right _ hb))
            refine ⟨ps ++ qs, csAll_append hp hq, ?_⟩
            rw [List.length_append, List.take_add, List.drop_drop]
            exact hrp.append hrq
          · cases h
        · cases h
      · cases h

theorem shape_ok : ∀ (n : Nat) (t : TypeId) (l : List CS), shape P n t = some l → TypeOk fi enc P w sp held t l := by
  intro n
  induction n using Nat.strongRecOn with
  | ind n ih =>
  cases n with
  | zero => intro t l h; simp [shape] at h
  | succ n =>
    intro t l h fuel cs x hx hw
    rw [shape] at h
    split at h
    · rename_i ht
      simp at h; subst h
      obtain ⟨b, rfl, rfl⟩ := DataW.trod_bool ht hx
      exact ⟨[.bool b], ⟨⟨b, rfl⟩, trivial⟩, Reps.single (.bool b)⟩
    · rename_i ht
      simp at h; subst h
      obtain ⟨b, rfl, rfl, hwf⟩ := DataW.trod_int ht hx
      refine ⟨[.int .i64 b], ⟨⟨b, rfl, ?_⟩, trivial⟩, Reps.single (.int .i64 b)⟩
      simp [Lit.wf, IntKind.min, IntKind.max, IntKind.signed, IntKind.bits] at hwf
      omega
    · rename_i ht
      simp at h; subst h
      obtain ⟨b, rfl, rfl, _⟩ := DataW.trod_string ht hx
      refine ⟨[.str b], ⟨⟨b, rfl, ?_⟩, trivial⟩, Reps.single (.str b)⟩
      have := hw b.size (by simp [DataW.weights])
      exact this
    · rename_i e ht
      split at h
      · rename_i l1 hs1
        split at h
        · rename_i hc
          simp at h; subst h
          rcases open_slice ht hx with ⟨rfl, rfl⟩ | ⟨a, len, cap, m, n', D, Pl, rfl, _, hlc, hcm, hm, rfl, hi⟩
          · refine ⟨[.sl false l1.length []], ⟨⟨[], rfl, by simp, fun e he => by simp at he⟩, trivial⟩, Reps.single ?_⟩
            exact .sl l1.length [] none 0 0 0 (fun _ => undef) (.inl rfl) (by simp) (fun e he => by simp at he) (fun e he => by simp at he) (fun i e j p he => by simp at he) (fun i e j p he => by simp at he)
          · have hlm : len ≤ m := by rw [hm]; split <;> omega
            have hwl : len * P.bytesOf e ≤ reachBytes := by
              have := hw ((len + (m - len)) * P.bytesOf e) (by
                rw [DataW.weights, ht]; simp)
              refine Nat.le_trans (Nat.mul_le_mul_right _ ?_) this; omega
            have key : ∀ i, i < len → ∃ u, (∃ ps : List PV, u.cells = ps ∧ csAll l1 ps ∧ ((isAgg P e = true ∧ u = .agg ps) ∨ (isAgg P e = false ∧ csAll l1 [u]))) ∧
                ∀ (j : Nat) (p : PV), u.cells[j]? = some p → ∃ v, w.cell? (a.add (i * P.cellsOf e + j)) = some v ∧ RepP fi (Mem.start w) w p v := by
              intro i hil
              obtain ⟨cs', hcells, htr⟩ := hi i (by omega)
              obtain ⟨ps, hp, hr⟩ := ih n (by omega) _ _ hs1 _ _ _ htr fun b hb => hw b (by
                rw [DataW.weights, ht]
                refine List.mem_cons_of_mem _ (List.mem_append_left _ (weightsAll_mem (i := i) ?_ hb))
                simp [List.getElem?_range, hil])
              obtain ⟨_, hcl, hat⟩ := World.cells?_some hcells
              have hpl := csAll_len hp
              have hget : ∀ (j : Nat) (p : PV), ps[j]? = some p → ∃ v, w.cell? (a.add (i * P.cellsOf e + j)) = some v ∧ RepP fi (Mem.start w) w p v := by
                intro j p hj
                have hjl : j < ps.length := (List.getElem?_eq_some_iff.1 hj).1
                have hjc : j < cs'.length := by rw [← hr.1]; exact hjl
                refine ⟨cs'[j], ?_, hr.2 j p _ hj (List.getElem?_eq_getElem hjc)⟩
                rw [← Go.Deep.add_add, hat j (by omega), List.getElem?_eq_getElem hjc]
              cases hg : isAgg P e with
              | true => exact ⟨.agg ps, ⟨ps, rfl, hp, .inl ⟨rfl, rfl⟩⟩, hget⟩
              | false =>
                have h1 : l1.length = 1 := hc.2.1.resolve_left (by simp [hg])
                obtain ⟨p0, rfl⟩ : ∃ p0, ps = [p0] := by
                  cases ps with
                  | nil => simp at hpl; omega
                  | cons p0 ps => cases ps with
                    | nil => exact ⟨p0, rfl⟩
                    | cons q qs => simp at hpl; omega
                have hcl0 := csAll_single hp
                exact ⟨p0, ⟨[p0], hcl0, hp, .inr ⟨rfl, hp⟩⟩, by rw [hcl0]; exact hget⟩
            obtain ⟨xs, hxl, hxs⟩ := ex_list len key
            have hmem : ∀ u ∈ xs, ∃ i, xs[i]? = some u := fun u hu => List.getElem?_of_mem hu
            refine ⟨[.sl false l1.length xs], ⟨⟨xs, rfl, by rw [hxl]; exact hwl, fun u hu => ?_⟩, trivial⟩, Reps.single ?_⟩
            · obtain ⟨i, hiu⟩ := hmem u hu
              obtain ⟨⟨ps, hcps, hall, hor⟩, _⟩ := hxs i u hiu
              rcases hor with ⟨h1, h2⟩ | ⟨h1, h2⟩
              · exact .inl ⟨h1, ps, h2, hall⟩
              · exact .inr ⟨h1, h2⟩
            · have hspot : xs = [] ∨ a.spot = none := by
                cases xs with
                | nil => exact .inl rfl
                | cons u us =>
                  refine .inr ?_
                  obtain ⟨⟨ps, hcps, hall, hor⟩, hcel⟩ := hxs 0 u rfl
                  have hl1 := csAll_len hall
                  by_cases hz : ps = []
                  · rw [hz] at hl1
                    have := hc.2.2
                    simp at hl1; omega
                  · obtain ⟨p, ps', rfl⟩ := List.exists_cons_of_ne_nil hz
                    obtain ⟨v, hv, _⟩ := hcel 0 p (by rw [hcps]; rfl)
                    have := World.cell?_spot hv
                    simpa [Addr.add] using this
              have hcellE : P.cellsOf e = l1.length := hc.1
              rw [show len = xs.length from hxl.symm]
              refine .sl l1.length xs (some a) cap a.block a.off (fun k => (w.cell? ⟨a.block, a.off + k, none⟩).getD undef) ?_ (by omega) (fun u hu => ?_) (fun u hu => ?_) (fun i u j p hu hp => ?_) (fun i u j p hu hp => ?_)
              · rcases hspot with h | h
                · exact .inl h
                · refine .inr ?_
                  cases a; simp at h; subst h; rfl
              · obtain ⟨i, hiu⟩ := hmem u hu
                obtain ⟨⟨ps, hcps, hall, _⟩, _⟩ := hxs i u hiu
                rw [hcps]; exact csAll_len hall
              · obtain ⟨i, hiu⟩ := hmem u hu
                obtain ⟨⟨ps, hcps, hall, _⟩, _⟩ := hxs i u hiu
                rw [argOk, hcps]; exact csAll_one hall
              · obtain ⟨_, hcel⟩ := hxs i u hu
                obtain ⟨v, hv, hrep⟩ := hcel j p hp
                rw [hcellE] at hv
                have ha : a.add (i * l1.length + j) = ⟨a.block, a.off + (i * l1.length + j), none⟩ := by
                  have hs : a.spot = none := hspot.resolve_left fun h => by rw [h] at hu; simp at hu
                  cases a; simp at hs; subst hs
                  unfold Addr.add; split
                  · rename_i h0; rw [h0]; rfl
                  · rfl
                rw [ha] at hv
                refine ⟨?_, by rw [hv]; rfl⟩
                exact cell_lt (a := ⟨a.block, a.off + (i * l1.length + j), none⟩) hv
              · obtain ⟨_, hcel⟩ := hxs i u hu
                obtain ⟨v, hv, hrep⟩ := hcel j p hp
                rw [hcellE] at hv
                have ha : a.add (i * l1.length + j) = ⟨a.block, a.off + (i * l1.length + j), none⟩ := by
                  have hs : a.spot = none := hspot.resolve_left fun h => by rw [h] at hu; simp at hu
                  cases a; simp at hs; subst hs
                  unfold Addr.add; split
                  · rename_i h0; rw [h0]; rfl
                  · rfl
                rw [ha] at hv
                rw [hv]; exact hrep
        · cases h
      · cases h
    · rename_i k e ht
      split at h
      · rename_i l1 hs1
        split at h
        · rename_i hc
          simp at h; subst h
          obtain ⟨xs, m, rfl, rfl, hcl, hxl, hi⟩ := DataW.trod_array ht hx
          obtain ⟨ps, hp, hr⟩ := arr_ok (ih n (by omega) _ _ hs1) (cs := cs) (xs := xs) (m := m) (fun j hj => by rw [← hc.1]; exact hi j (by omega)) (fun b hb => hw b (by rw [DataW.weights, ht]; exact hb)) k 0 (by omega)
          refine ⟨ps, hp, ?_⟩
          rw [Nat.zero_mul, List.drop_zero, ← hc.2, ← hcl, List.take_length] at hr
          exact hr
        · cases h
      · cases h
    · rename_i fs ht
      split at h
      · rename_i l1 hs1
        split at h
        · rename_i hc
          simp at h; subst h
          obtain ⟨xs, m, rfl, rfl, hcl, hxl, hi⟩ := DataW.trod_struct ht hx
          obtain ⟨ps, hp, hr⟩ := fields_ok n (fun k hk => ih k (by omega)) n (by omega) fs.toList 0 l1 hs1 cs xs m (by simpa using hxl) (fun i f hf => hi i f (by simpa using hf)) (fun b hb => hw b (by rw [DataW.weights, ht]; exact hb))
          refine ⟨ps, hp, ?_⟩
          rw [List.drop_zero, ← hc, ← hcl, List.take_length] at hr
          exact hr
        · cases h
      · cases h
    · cases h

/-- An argument: is it a row of cells, and which. -/
def argTy : Bool × List CS → PV → Prop
  | (true, l), p => ∃ ps, p = .agg ps ∧ csAll l ps
  | (false, l), p => csAll l [p]

def argsTy : List (Bool × List CS) → List PV → Prop
  | [], [] => True
  | c :: cs, p :: ps => argTy c p ∧ argsTy cs ps
  | _, _ => False

def shapes (P : Program) (n : Nat) : List TypeId → Option (List (Bool × List CS))
  | [] => some []
  | t :: ts => match shape P n t, shapes P n ts with
    | some l, some r => some ((isAgg P t, l) :: r)
    | _, _ => none

theorem argsTy_cons {c : Bool × List CS} {cs : List (Bool × List CS)} {qs : List PV} (h : argsTy (c :: cs) qs) : ∃ p ps, qs = p :: ps ∧ argTy c p ∧ argsTy cs ps := by
  cases qs with
  | nil => simp [argsTy] at h
  | cons p ps => exact ⟨p, ps, rfl, h⟩

theorem argsTy_nil {qs : List PV} (h : argsTy [] qs) : qs = [] := by
  cases qs with
  | nil => rfl
  | cons p ps => simp [argsTy] at h

theorem csAll_cons {c : CS} {cs : List CS} {qs : List PV} (h : csAll (c :: cs) qs) : ∃ p ps, qs = p :: ps ∧ csOk c p ∧ csAll cs ps := by
  cases qs with
  | nil => simp [csAll] at h
  | cons p ps => exact ⟨p, ps, rfl, h⟩

theorem csAll_nil {qs : List PV} (h : csAll [] qs) : qs = [] := by
  cases qs with
  | nil => rfl
  | cons p ps => simp [csAll] at h

theorem argTy_int {p : PV} (h : argTy (false, [.int]) p) : ∃ n, p = .int .i64 n ∧ -9223372036854775808 ≤ n ∧ n ≤ 9223372036854775807 := by
  obtain ⟨q, ps, e, h1, h2⟩ := csAll_cons h
  cases csAll_nil h2
  simp only [List.cons.injEq, and_true] at e
  subst e
  exact h1

theorem argTy_agg {l : List CS} {p : PV} (h : argTy (true, l) p) : ∃ ps, p = .agg ps ∧ csAll l ps := h

theorem csOk_int {p : PV} (h : csOk .int p) : ∃ n, p = .int .i64 n ∧ -9223372036854775808 ≤ n ∧ n ≤ 9223372036854775807 := h

theorem argTy_ok {c : Bool × List CS} {p : PV} (h : argTy c p) : argOk p = true := by
  obtain ⟨g, l⟩ := c
  cases g with
  | true =>
    obtain ⟨ps, rfl, h⟩ := h
    exact csAll_one h
  | false => rw [argOk, csAll_single h]; exact csAll_one h

theorem argsTy_ok : ∀ {L : List (Bool × List CS)} {ps : List PV}, argsTy L ps → ∀ p ∈ ps, argOk p = true
  | [], [], _, p, hp => by simp at hp
  | _ :: _, q :: ps, h, p, hp => by
    simp only [argsTy] at h
    rcases List.mem_cons.1 hp with rfl | hp
    · exact argTy_ok h.1
    · exact argsTy_ok h.2 p hp
  | [], _ :: _, h, _, _ => by simp [argsTy] at h
  | _ :: _, [], h, _, _ => by simp [argsTy] at h

theorem arg_ok {n : Nat} {t : TypeId} {l : List CS} (hs : shape P n t = some l) {base : Nat} {v : Value} {d : DataW H} {ps : List MemPlace} (hv : Value.okWide P w .any base t v) (hd : DataW.Trod enc P w 0 sp held t v d ps)
    (hw : ∀ b ∈ d.weights P t, b ≤ reachBytes) : ∃ p, argTy (isAgg P t, l) p ∧ RepP fi (Mem.start w) w p v := by
  obtain ⟨fuel, hf⟩ := hd
  obtain ⟨qs, hq, hr⟩ := shape_ok (fi := fi) n t l hs fuel _ _ hf hw
  have hone : v.cells.toList = [v] → isAgg P t = false → ∃ p, argTy (isAgg P t, l) p ∧ RepP fi (Mem.start w) w p v := by
    intro hc hg
    rw [hc] at hr
    cases qs with
    | nil => have := hr.1; simp at this
    | cons q qs => cases qs with
      | cons r qs => have := hr.1; simp at this
      | nil => exact ⟨q, by rw [hg]; exact hq, hr.2 0 q v rfl rfl⟩
  have hagg : (∃ cs, v = .agg cs) → isAgg P t = true → ∃ p, argTy (isAgg P t, l) p ∧ RepP fi (Mem.start w) w p v := by
    rintro ⟨cs, rfl⟩ hg
    refine ⟨.agg qs, by rw [hg]; exact ⟨qs, rfl, hq⟩, ?_⟩
    obtain ⟨cl⟩ := cs
    exact .agg qs cl hr.1.symm hr.2
  cases n with
  | zero => simp [shape] at hs
  | succ n =>
    rw [shape] at hs
    split at hs
    · rename_i ht
      obtain ⟨b, rfl⟩ := okWide_bool ht hv
      exact hone rfl (by simp [isAgg, ht])
    · rename_i ht
      obtain ⟨b, rfl⟩ := okWide_int ht hv
      exact hone rfl (by simp [isAgg, ht])
    · rename_i ht
      obtain ⟨b, rfl⟩ := okWide_string ht hv
      exact hone rfl (by simp [isAgg, ht])
    · rename_i e ht
      obtain ⟨a, b, c, rfl⟩ := okWide_slice ht hv
      exact hone rfl (by simp [isAgg, ht])
    · rename_i k e ht
      refine hagg ?_ (by simp [isAgg, ht])
      simp only [Value.okWide, ht] at hv
      obtain ⟨cs, h1, _⟩ := hv
      exact ⟨cs, h1⟩
    · rename_i fs ht
      refine hagg ?_ (by simp [isAgg, ht])
      simp only [Value.okWide, ht] at hv
      obtain ⟨cs, h1, _⟩ := hv
      exact ⟨cs, h1⟩
    · cases hs


theorem args_ok {n base : Nat} : ∀ {ts : List TypeId} {L : List (Bool × List CS)} {vs : List Value} {ds : List (DataW H)} {ps : List MemPlace}, shapes P n ts = some L → DataW.TrodAll enc P w 0 sp held ts vs ds ps →
    (∀ (j : Nat) t v, ts[j]? = some t → vs[j]? = some v → Value.okWide P w .any base t v) → (∀ b ∈ DataW.weightsEach P ts ds, b ≤ reachBytes) →
    ∃ qs, argsTy L qs ∧ qs.length = vs.length ∧ ∀ (i : Nat) (p : PV) (v : Value), qs[i]? = some p → vs[i]? = some v → RepP fi (Mem.start w) w p v
  | [], L, vs, ds, ps, hs, ht, _, _ => by
    obtain ⟨rfl, rfl, rfl⟩ := trodAll_nil ht
    simp [shapes] at hs; subst hs
    exact ⟨[], trivial, rfl, fun i p v h => by simp at h⟩
  | t :: ts, L, vs, ds, ps, hs, ht, hv, hw => by
    obtain ⟨v, vs', d, ds', p, q, rfl, rfl, rfl, h1, h2⟩ := trodAll_cons ht
    simp only [shapes] at hs
    split at hs
    · rename_i l r hl hr
      simp at hs; subst hs
      obtain ⟨a, ha, hra⟩ := arg_ok (fi := fi) hl (hv 0 t v rfl rfl) h1 fun b hb => hw b (by simp only [DataW.weightsEach]; exact List.mem_append_left _ hb)
      obtain ⟨qs, hq, hl, hrq⟩ := args_ok hr h2 (fun j t v h1 h2 => hv (j + 1) t v (by simpa using h1) (by simpa using h2)) (fun b hb => hw b (by simp only [DataW.weightsEach]; exact List.mem_append_right _ hb))
      refine ⟨a :: qs, ⟨ha, hq⟩, by simp [hl], fun i p v h1 h2 => ?_⟩
      cases i with
      | zero => simp at h1 h2; subst h1; subst h2; exact hra
      | succ i => exact hrq i p v (by simpa using h1) (by simpa using h2)
    · cases hs

theorem trodAll_below {W W' : World} (hl : laidOutB P = true) (hb : Below W.heap.size W W') : ∀ {ts : List TypeId} {vs : List Value} {ds : List (DataW H)} {ps : List MemPlace},
    (ts.all fun t => P.readableRec t && decide (t < P.types.size)) = true → DataW.TrodAll enc P W 0 (fun _ => true) true ts vs ds ps → DataW.TrodAll enc P W' 0 (fun b => decide (b < W.heap.size)) true ts vs ds ps
  | [], vs, ds, ps, _, h => by
    obtain ⟨rfl, rfl, rfl⟩ := trodAll_nil h
    exact h
  | t :: ts, vs, ds, ps, hr, h => by
    obtain ⟨v, vs', d, ds', p, q, rfl, rfl, rfl, h1, h2⟩ := trodAll_cons h
    simp only [List.all_cons, Bool.and_eq_true, decide_eq_true_eq] at hr
    have lt : ∀ x ∈ p, x.block < W.heap.size := by obtain ⟨m, hm⟩ := h1; exact DataW.trod_lt m _ _ _ hm
    exact ⟨p, q, Below.trod hl hr.1.1 hr.1.2 h1 hb lt, trodAll_below hl hb hr.2 h2, rfl⟩

end
end Go.Lw
end

/-! When the machine's functions stand for the program's: asked by one check over a list of both numbers; and what a law's row needs behind it. -/
section
namespace Go.Lw
open Go Go.RowKit

/-- Function f of the machine stands for function F of the program. -/
def linkF (P : Program) (fi : Nat → Option Nat) (pg : Prg) (f F : Nat) : Bool :=
  match P.funcs[F]? with
  | some Fn => match Fn.body with
    | some c => match pg f with
      | some (.code fn) => (!(Fn.name == "runtime.NumGoroutine")) && (matchC P fi Fn.ntmps fn.body c && mRes P fn.res Fn.results.toList)
      | _ => !(Fn.name == "runtime.NumGoroutine")
    | none => false
  | none => false

def isLib (pg : Prg) (f : Nat) : Bool := match pg f with | some (.lib _) => true | _ => false

theorem linkF_ok {P : Program} {fi : Nat → Option Nat} {pg : Prg} {f F : Nat} (h : linkF P fi pg f F = true) (hl : ∀ L, pg f = some (.lib L) → ∀ vs gh r gh', L vs gh = some (r, gh') → (∀ p ∈ vs, argOk p = true) → CallOk P fi F vs gh r gh') :
    HasBody P F ∧ match pg f with
    | some (.code fn) => ∃ Fn c, P.funcs[F]? = some Fn ∧ Fn.body = some c ∧ matchC P fi Fn.ntmps fn.body c = true ∧ mRes P fn.res Fn.results.toList = true
    | some (.lib L) => ∀ vs gh r gh', L vs gh = some (r, gh') → (∀ p ∈ vs, argOk p = true) → CallOk P fi F vs gh r gh'
    | none => True := by
  unfold linkF at h
  cases hF : P.funcs[F]? with
  | none => rw [hF] at h; cases h
  | some Fn =>
    rw [hF] at h; simp only at h
    cases hc : Fn.body with
    | none => rw [hc] at h; cases h
    | some c =>
      rw [hc] at h; simp only at h
      cases hp : pg f with
      | none =>
        rw [hp] at h
        exact ⟨⟨Fn, c, hF, by simpa using h, hc⟩, trivial⟩
      | some df =>
        cases df with
        | lib L =>
          rw [hp] at h
          exact ⟨⟨Fn, c, hF, by simpa using h, hc⟩, hl L hp⟩
        | code fn =>
          rw [hp] at h
          simp only [Bool.and_eq_true, Bool.not_eq_true'] at h
          exact ⟨⟨Fn, c, hF, h.1, hc⟩, Fn, c, rfl, hc, h.2.1, h.2.2⟩

def fiOf (l : List (Nat × Nat)) (f : Nat) : Option Nat := (l.find? (·.1 == f)).map (·.2)

theorem fiOf_mem {l : List (Nat × Nat)} {f F : Nat} (h : fiOf l f = some F) : (f, F) ∈ l := by
  unfold fiOf at h
  simp only [Option.map_eq_some_iff] at h
  obtain ⟨⟨a, b⟩, h1, rfl⟩ := h
  have h2 := List.find?_some h1
  have h3 := List.mem_of_find?_eq_some h1
  simp at h2; subst h2
  exact h3

theorem link_of {P : Program} {l : List (Nat × Nat)} {pg : Prg} (h : (l.all fun x => linkF P (fiOf l) pg x.1 x.2) = true)
    (hl : ∀ f F L, (f, F) ∈ l → pg f = some (.lib L) → ∀ vs gh r gh', L vs gh = some (r, gh') → (∀ p ∈ vs, argOk p = true) → CallOk P (fiOf l) F vs gh r gh') : LinkOk P (fiOf l) pg := by
  intro f F hf
  have hm := fiOf_mem hf
  rw [List.all_eq_true] at h
  exact linkF_ok (h _ hm) (fun L => hl f F L hm)

theorem link_nolib {P : Program} {l : List (Nat × Nat)} {pg : Prg} (h : (l.all fun x => linkF P (fiOf l) pg x.1 x.2) = true) (hn : (l.all fun x => !isLib pg x.1) = true) : LinkOk P (fiOf l) pg := by
  refine link_of h fun f F L hm hp => ?_
  rw [List.all_eq_true] at hn
  have := hn _ hm
  simp [isLib, hp] at this

/-- A law's row: the call answers true, and what there was is as it was. -/
theorem row_ok {H : Type} {enc : TypeId × Value → H} {P : Program} {fi : Nat → Option Nat} {pg : Prg} (hP : P.follows .mixedOrders = true) (hL : LinkOk P fi pg) {f F n : Nat} (hf : fi f = some F) {ts : List TypeId} {L : List (Bool × List CS)}
    (hs : shapes P n ts = some L) (hlaw : ∀ qs, argsTy L qs → callL pg f qs [] = some (.bool true, [])) {W : World} {base : Nat} {args : List Value} {ds : List (DataW H)} {ps : List MemPlace}
    (hA : DataW.TrodAll enc P W 0 (fun _ => true) true ts args ds ps) (hv : ∀ (j : Nat) t v, ts[j]? = some t → args[j]? = some v → Value.okWide P W .any base t v) (hw : (DataW.weightsEach P ts ds).all (· ≤ reachBytes) = true) :
    Calls P F args.toArray W fun e W' => e = .returned (.bool true) ∧ Below W.heap.size W W' := by
  obtain ⟨qs, hq, hl, hr⟩ := args_ok (fi := fi) hs hA hv (by simpa using hw)
  refine (top_ok hP hL (hlaw qs hq) (argsTy_ok hq) hf hl.symm hr).mono ?_
  rintro e w' ⟨v, M', rfl, _, hres, h1, h2, h3, h4, h5⟩
  refine ⟨?_, ⟨h1, h2, h3, h4, h5⟩⟩
  have : RepP fi M' w' (.bool true) v := hres
  cases this; rfl

end Go.Lw
end

/-! The law WordApplies, of the machine: it answers true. -/
section
namespace Go.Lw
open Go

theorem natOf {x : Int} (h : 0 ≤ x) : ∃ n : Nat, x = n := ⟨x.toNat, by omega⟩

/-- Of words that are right, what the document makes is what Apply answers. -/
theorem Made_eq {k width a b c n w0 w1 w2 : Int} (he : fitE k width n w0 w1 w2 = 0) (h0 : inOk k 0 a w0) (h1 : inOk k 1 b w1) (h2 : inOk k 2 c w2) (gh : List GObj) :
    callL pg 28 [I k, I width, I a, I b, I c, I n, .agg [I w0, I w1, I w2]] gh = some (I (rawOf k width a b c n w0 w1), gh) := by
  obtain ⟨hk, hw, g0, g1, g2, s, hs, hf⟩ := fitE_zero he
  have ht := takes_pos hk
  unfold inOk at h0 h1 h2
  unfold wOk at g0 g1 g2
  rw [if_pos ht] at h0 g0
  have hn : 0 ≤ n := by
    unfold fitsOf at hf
    by_cases h6 : s = 6
    · simp [h6] at hf; omega
    · by_cases hn : n = 0
      · omega
      · simp [h6, hn] at hf
  have hb : 0 ≤ b := by split at h1 <;> omega
  have hc : 0 ≤ c := by split at h2 <;> omega
  have hw1 : 0 ≤ w1 := by split at g1 <;> omega
  have hw2 : 0 ≤ w2 := by split at g2 <;> omega
  obtain ⟨W, rfl⟩ := natOf (show 0 ≤ width by omega)
  obtain ⟨A, rfl⟩ := natOf h0.1
  obtain ⟨B, rfl⟩ := natOf hb
  obtain ⟨C, rfl⟩ := natOf hc
  obtain ⟨N, rfl⟩ := natOf hn
  obtain ⟨W0, rfl⟩ := natOf (show 0 ≤ w0 by omega)
  obtain ⟨W1, rfl⟩ := natOf hw1
  obtain ⟨W2, rfl⟩ := natOf hw2
  have hA : A < 2 ^ W0 := by
    have := h0.2
    rw [iShl_one (by omega), ← two_nat] at this; omega
  have hB : 1 < takesOf k → B < 2 ^ W1 := by
    intro h
    rw [if_pos h] at h1 g1
    have := h1.2
    rw [iShl_one (by omega), ← two_nat] at this; omega
  have hC : 2 < takesOf k → C < 2 ^ W2 := by
    intro h
    rw [if_pos h] at h2 g2
    have := h2.2
    rw [iShl_one (by omega), ← two_nat] at this; omega
  have hd := Made_D (gh := gh) hk hs hf (by omega) (by omega) (fun h => by rw [if_pos h] at g1; omega) hA hB hC
  refine callL_fn (fn := f_ref_Made) rfl rfl (D_ref_Made_0_ok hd) ?r1
  simp [finish, results, f_ref_Made, resOfs, resOf, resOk]

section
variable (k width n v e a b c w0 w1 w2 : Int) (gh : List GObj)

def waSt (y i : Int) : St := ⟨[(0, I k), (1, I width), (3, I n), (7, .ptr false 0 0), (9, .ptr false 1 0), (11, I v), (12, I e), (13, I y), (14, I 0), (15, .sl true 1 [I a, I b, I c]), (16, I i)], [[I a, I b, I c], [I w0, I w1, I w2]], gh⟩

theorem WA_k1 (y i : Int) (hi : 0 ≤ i ∧ i < 3) : runL pg f_law_WordApplies_k1 (waSt k width n v e a b c w0 w1 w2 gh y i) = some (.normal, waSt k width n v e a b c w0 w1 w2 gh y (i + 1)) := by
  refine D_law_WordApplies_k1_ok ?_
  have hw : (IntKind.i64.wrap (i + 1)) = i + 1 := wrap_id (by omega) (by omega)
  rw [D_law_WordApplies_k1, hw]; rfl

theorem WA_po (y i : Int) (r : Option (IExit × St)) (h : r = some (.normal, waSt k width n v e a b c w0 w1 w2 gh y i)) :
    kR r (fun e s => po [0, 1, 3, 7, 9, 11, 12, 13, 14, 15, 16] 2 e s (fun e s => some (e, s))) = some (.normal, waSt k width n v e a b c w0 w1 w2 gh y i) := by
  subst h; rfl

theorem WA_b1 (i x w : Int) (hi : (i = 0 ∧ w = w0 ∧ x = a) ∨ (i = 1 ∧ w = w1 ∧ x = b) ∨ (i = 2 ∧ w = w2 ∧ x = c)) (hw : wOk k i w) :
    D_law_WordApplies_b1 pg k width n v e 0 0 (.sl true 1 [I a, I b, I c]) i a b c w0 w1 w2 gh = some (.normal, waSt k width n v e a b c w0 w1 w2 gh (if inOk k i x w then 0 else 3) (i + 1)) := by
  have hp0 := WA_po k width n v e a b c w0 w1 w2 gh 0 (i + 1) _ (WA_k1 k width n v e a b c w0 w1 w2 gh 0 i (by omega))
  have hp3 := WA_po k width n v e a b c w0 w1 w2 gh 3 (i + 1) _ (WA_k1 k width n v e a b c w0 w1 w2 gh 3 i (by omega))
  unfold waSt at hp0 hp3
  by_cases hk : i < takesOf k
  · have hk' := Int.not_le.2 hk
    unfold wOk at hw; rw [if_pos hk] at hw
    obtain ⟨W, hW⟩ := natOf (show 0 ≤ w by omega)
    have hT := Two_eq (show W ≤ 61 by omega) gh
    rw [← hW] at hT
    have hs : iShl .i64 1 w = ((2 ^ W : Nat) : Int) := by rw [hW, iShl_one (by omega), two_nat]
    by_cases h1 : x < 0
    · have hn : ¬ inOk k i x w := by unfold inOk; rw [if_pos hk]; omega
      rw [if_neg hn]
      rcases hi with ⟨rfl, rfl, rfl⟩ | ⟨rfl, rfl, rfl⟩ | ⟨rfl, rfl, rfl⟩ <;> simp [D_law_WordApplies_b1, RTakes_eq, hk, h1] <;> exact hp3
    · by_cases h2 : ((2 ^ W : Nat) : Int) ≤ x
      · have hn : ¬ inOk k i x w := by unfold inOk; rw [if_pos hk, hs]; omega
        rw [if_neg hn]
        rw [two_nat] at h2 hT
        rcases hi with ⟨rfl, rfl, rfl⟩ | ⟨rfl, rfl, rfl⟩ | ⟨rfl, rfl, rfl⟩ <;> simp [D_law_WordApplies_b1, RTakes_eq, hk, h1, hT, h2] <;> exact hp3
      · have hn : inOk k i x w := by unfold inOk; rw [if_pos hk, hs]; omega
        rw [if_pos hn]
        rw [two_nat] at h2 hT
        rcases hi with ⟨rfl, rfl, rfl⟩ | ⟨rfl, rfl, rfl⟩ | ⟨rfl, rfl, rfl⟩ <;> simp [D_law_WordApplies_b1, RTakes_eq, hk, hk', h1, hT, h2] <;> exact hp0
  · have hk' := Int.not_lt.1 hk
    by_cases h2 : x = 0
    · have hn : inOk k i x w := by unfold inOk; rw [if_neg hk]; exact h2
      rw [if_pos hn]
      rcases hi with ⟨rfl, rfl, h3⟩ | ⟨rfl, rfl, h3⟩ | ⟨rfl, rfl, h3⟩ <;> simp [D_law_WordApplies_b1, RTakes_eq, hk, hk', ← h3, h2] <;> (rw [← h3, h2] at hp0; exact hp0)
    · have hn : ¬ inOk k i x w := by unfold inOk; rw [if_neg hk]; exact h2
      rw [if_neg hn]
      rcases hi with ⟨rfl, rfl, rfl⟩ | ⟨rfl, rfl, rfl⟩ | ⟨rfl, rfl, rfl⟩ <;> simp [D_law_WordApplies_b1, RTakes_eq, hk, hk', h2] <;> exact hp3

/-- Behind the loop. -/
def waEnd (y : Int) : St := ⟨[(0, I k), (1, I width), (3, I n), (7, .ptr false 0 0), (9, .ptr false 1 0), (11, I v), (12, I e), (13, I y), (14, I 0)], [[I a, I b, I c], [I w0, I w1, I w2]], gh⟩

theorem WA_exit (y i : Int) (h : y ≠ 0 ∨ i = 3) : runL pg f_law_WordApplies_l1 (waSt k width n v e a b c w0 w1 w2 gh y i) = some (.normal, waEnd k width n v e a b c w0 w1 w2 gh y) := by
  by_cases hi : i < 3
  · have hy : y ≠ 0 := h.resolve_right (by omega)
    refine (lp_exit (s1 := ?s1) (D_law_WordApplies_b1_ok ?h1)).trans ?r1
    case h1 => rw [D_law_WordApplies_b1, decide_eq_true hi, br_true, beqI, decide_eq_false hy, stK_sl, br_false]
    case r1 => rfl
  · refine (lp_exit (s1 := ?s2) (D_law_WordApplies_b1_ok ?h2)).trans ?r2
    case h2 => rw [D_law_WordApplies_b1, decide_eq_false hi, br_false, stK_sl]
    case r2 => rfl

theorem WA_loop (g0 : wOk k 0 w0) (g1 : wOk k 1 w1) (g2 : wOk k 2 w2) : runL pg f_law_WordApplies_l1 (waSt k width n v e a b c w0 w1 w2 gh 0 0) =
    some (.normal, waEnd k width n v e a b c w0 w1 w2 gh (if inOk k 0 a w0 ∧ inOk k 1 b w1 ∧ inOk k 2 c w2 then 0 else 3)) := by
  refine lp_next (D_law_WordApplies_b1_ok (WA_b1 k width n v e a b c w0 w1 w2 gh 0 a w0 (by simp) g0)) ?_
  by_cases h0 : inOk k 0 a w0
  · rw [if_pos h0]
    refine lp_next (D_law_WordApplies_b1_ok (WA_b1 k width n v e a b c w0 w1 w2 gh 1 b w1 (by simp) g1)) ?_
    by_cases h1 : inOk k 1 b w1
    · rw [if_pos h1]
      refine lp_next (D_law_WordApplies_b1_ok (WA_b1 k width n v e a b c w0 w1 w2 gh 2 c w2 (by simp) g2)) ?_
      by_cases h2 : inOk k 2 c w2
      · rw [if_pos h2, if_pos ⟨h0, h1, h2⟩]
        exact WA_exit k width n v e a b c w0 w1 w2 gh 0 3 (.inr rfl)
      · rw [if_neg h2, if_neg (fun h => h2 h.2.2)]
        exact WA_exit k width n v e a b c w0 w1 w2 gh 3 3 (.inr rfl)
    · rw [if_neg h1, if_neg (fun h => h1 h.2.1)]
      exact WA_exit k width n v e a b c w0 w1 w2 gh 3 2 (.inl (by decide))
  · rw [if_neg h0, if_neg (fun h => h0 h.1)]
    exact WA_exit k width n v e a b c w0 w1 w2 gh 3 1 (.inl (by decide))

theorem WA_k3 (y z : Int) (he : e = y) (hv : v = z) : runL pg f_law_WordApplies_k3 ⟨[(11, I v), (12, I e), (13, I y), (14, I z)], [], gh⟩ = some (.ret, ⟨[(10, B true)], [], gh⟩) := by
  refine D_law_WordApplies_k3_ok ?_
  subst he; subst hv
  simp [D_law_WordApplies_k3, wordBegun_true]

end

theorem WordApplies_eq (k width a b c n w0 w1 w2 : Int) : callL pg 24 [I k, I width, .agg [I a, I b, I c], I n, .agg [I w0, I w1, I w2]] [] = some (B true, []) := by
  refine callL_fn (fn := f_law_WordApplies) (s := ⟨[(10, B true)], [], []⟩) rfl rfl (D_law_WordApplies_0_ok ?h1) ?r1
  case r1 => simp [finish, results, f_law_WordApplies, resOfs, resOf, resOk]
  case h1 =>
    have hA := Apply_eq k width a b c n w0 w1 w2 []
    by_cases he : fitE k width n w0 w1 w2 = 0
    · obtain ⟨hk, hw, g0, g1, g2, s, hs, hf⟩ := fitE_zero he
      by_cases ho : inOk k 0 a w0 ∧ inOk k 1 b w1 ∧ inOk k 2 c w2
      · have ha : applyOf k width a b c n w0 w1 w2 = (rawOf k width a b c n w0 w1, 0) := by simp [applyOf, he, ho]
        rw [ha] at hA
        have hl := WA_loop k width n (rawOf k width a b c n w0 w1) 0 a b c w0 w1 w2 [] g0 g1 g2
        rw [if_pos ho] at hl
        unfold waSt waEnd at hl
        have hk3 := WA_k3 (rawOf k width a b c n w0 w1) 0 [] 0 (rawOf k width a b c n w0 w1) rfl rfl
        have hk2 := D_law_WordApplies_k2_ok (pg := pg) (gh := []) (x0 := k) (x1 := width) (x3 := n) (x11 := rawOf k width a b c n w0 w1) (x12 := 0) (x13 := 0) (x14 := 0) (xc0_0 := a) (xc0_1 := b) (xc0_2 := c) (xc1_0 := w0) (xc1_1 := w1) (xc1_2 := w2) (e := .ret) (s := ⟨[(10, B true)], [], []⟩)
          (by simp [D_law_WordApplies_k2, Made_eq he ho.1 ho.2.1 ho.2.2, hk3])
        simp [D_law_WordApplies_0, hA, FitOf_eq, he, hl, hk2]
      · have ha : applyOf k width a b c n w0 w1 w2 = (0, 3) := by simp [applyOf, he, ho]
        rw [ha] at hA
        have hl := WA_loop k width n 0 3 a b c w0 w1 w2 [] g0 g1 g2
        rw [if_neg ho] at hl
        unfold waSt waEnd at hl
        have hk3 := WA_k3 0 3 [] 3 0 rfl rfl
        have hk2 := D_law_WordApplies_k2_ok (pg := pg) (gh := []) (x0 := k) (x1 := width) (x3 := n) (x11 := 0) (x12 := 3) (x13 := 3) (x14 := 0) (xc0_0 := a) (xc0_1 := b) (xc0_2 := c) (xc1_0 := w0) (xc1_1 := w1) (xc1_2 := w2) (e := .ret) (s := ⟨[(10, B true)], [], []⟩)
          (by simp [D_law_WordApplies_k2, hk3])
        simp [D_law_WordApplies_0, hA, FitOf_eq, he, hl, hk2]
    · have ha : applyOf k width a b c n w0 w1 w2 = (0, fitE k width n w0 w1 w2) := by simp [applyOf, he]
      rw [ha] at hA
      have hl := WA_exit k width n 0 (fitE k width n w0 w1 w2) a b c w0 w1 w2 [] (fitE k width n w0 w1 w2) 0 (.inl he)
      unfold waSt waEnd at hl
      have hk3 := WA_k3 0 (fitE k width n w0 w1 w2) [] (fitE k width n w0 w1 w2) 0 rfl rfl
      have hk2 := D_law_WordApplies_k2_ok (pg := pg) (gh := []) (x0 := k) (x1 := width) (x3 := n) (x11 := 0) (x12 := fitE k width n w0 w1 w2) (x13 := fitE k width n w0 w1 w2) (x14 := 0) (xc0_0 := a) (xc0_1 := b) (xc0_2 := c) (xc1_0 := w0) (xc1_1 := w1) (xc1_2 := w2) (e := .ret) (s := ⟨[(10, B true)], [], []⟩)
        (by simp [D_law_WordApplies_k2, he, hk3])
      simp [D_law_WordApplies_0, hA, FitOf_eq, hl, hk2]

abbrev insWordApplies : List (Bool × List CS) := [(false, [.int]), (false, [.int]), (true, [.int, .int, .int]), (false, [.int]), (true, [.int, .int, .int])]

theorem agg3 {p : PV} (h : argTy (true, [.int, .int, .int]) p) : ∃ a b c, p = .agg [I a, I b, I c] := by
  obtain ⟨ps, rfl, hp⟩ := argTy_agg h
  obtain ⟨_, _, rfl, g0, hp⟩ := csAll_cons hp
  obtain ⟨_, _, rfl, g1, hp⟩ := csAll_cons hp
  obtain ⟨_, _, rfl, g2, hp⟩ := csAll_cons hp
  obtain rfl := csAll_nil hp
  obtain ⟨w0, rfl, -⟩ := csOk_int g0
  obtain ⟨w1, rfl, -⟩ := csOk_int g1
  obtain ⟨w2, rfl, -⟩ := csOk_int g2
  exact ⟨_, _, _, rfl⟩

theorem wordApplies_true (qs : List PV) (h : argsTy insWordApplies qs) : callL pg 24 qs [] = some (B true, []) := by
  obtain ⟨_, _, rfl, h0, h⟩ := argsTy_cons h
  obtain ⟨_, _, rfl, h1, h⟩ := argsTy_cons h
  obtain ⟨_, _, rfl, h2, h⟩ := argsTy_cons h
  obtain ⟨_, _, rfl, h3, h⟩ := argsTy_cons h
  obtain ⟨_, _, rfl, h4, h⟩ := argsTy_cons h
  obtain rfl := argsTy_nil h
  obtain ⟨k, rfl, -⟩ := argTy_int h0
  obtain ⟨width, rfl, -⟩ := argTy_int h1
  obtain ⟨n, rfl, -⟩ := argTy_int h3
  obtain ⟨a, b, c, rfl⟩ := agg3 h2
  obtain ⟨w0, w1, w2, rfl⟩ := agg3 h4
  exact WordApplies_eq k width a b c n w0 w1 w2

end Go.Lw
end

/-! The law WordTurns, of the machine: it answers true. -/
section
namespace Go.Lw
open Go

/-- Which of n things a number speaks of. -/
def chooseOf (c : Int) (n : Nat) : Nat := (if c < 0 then -(c + 1) else c).toNat % n

theorem choose_eq {c : Int} {n : Nat} (h1 : -9223372036854775808 ≤ c) (h2 : c ≤ 9223372036854775807) (hn : 0 < n) (gh : List GObj) : callL pg 30 [I c, I n] gh = some (I (chooseOf c n), gh) := by
  have hz : ((n : Int) ≠ 0) := by omega
  have hk : ∀ x : Int, 0 ≤ x → runL pg f_law_choose_k1 ⟨[(0, I x), (1, I n)], [], gh⟩ = some (.ret, ⟨[(4, I ((x.toNat % n : Nat) : Int))], [], gh⟩) := by
    intro x hx
    refine D_law_choose_k1_ok ?_
    obtain ⟨y, rfl⟩ := natOf hx
    have e : Int.tmod (y : Int) (n : Int) = ((y % n : Nat) : Int) := (Int.ofNat_tmod _ _).symm
    rw [D_law_choose_k1, decide_eq_true hz, e]; rfl
  by_cases h : c < 0
  · have e1 : IntKind.i64.wrap (0 - IntKind.i64.wrap (c + 1)) = -(c + 1) := by
      rw [wrap_id (n := c + 1) (by omega) (by omega), wrap_id (by omega) (by omega)]; omega
    refine callL_fn (fn := f_law_choose) (s := ⟨[(4, I (chooseOf c n))], [], gh⟩) rfl rfl (D_law_choose_0_ok ?h1) ?r1
    case h1 => rw [D_law_choose_0, decide_eq_true h, br_true, e1, hk _ (by omega), kR_some, chooseOf, if_pos h]
    case r1 => simp [finish, results, f_law_choose, resOfs, resOf, resOk]
  · refine callL_fn (fn := f_law_choose) (s := ⟨[(4, I (chooseOf c n))], [], gh⟩) rfl rfl (D_law_choose_0_ok ?h2) ?r2
    case h2 => rw [D_law_choose_0, decide_eq_false h, br_false, hk _ (by omega), kR_some, chooseOf, if_neg h]
    case r2 => simp [finish, results, f_law_choose, resOfs, resOf, resOk]

theorem chooseOf_lt (c : Int) {n : Nat} (hn : 0 < n) : chooseOf c n < n := Nat.mod_lt _ hn

theorem in_lt {k i : Int} {A W : Nat} (h : i < takesOf k) (hW : W ≤ 8) (hA : A < 2 ^ W) : inOk k i A W := by
  unfold inOk
  rw [if_pos h, iShl_one hW, ← two_nat]
  omega

theorem in_zero {k i : Int} {W : Int} (h : ¬ i < takesOf k) : inOk k i 0 W := by
  unfold inOk
  rw [if_neg h]

/-- An operation on words that are right. -/
theorem ap_ok {k n a b c w0 w1 w2 : Int} {W : Nat} {r : Int} (hf : fitE k W n w0 w1 w2 = 0) (h0 : inOk k 0 a w0) (h1 : inOk k 1 b w1) (h2 : inOk k 2 c w2) (hW : W ≤ 8) (hr : doOf k a b c n w0 w1 % ((2 ^ W : Nat) : Int) = r) (gh : List GObj) :
    callL pg 25 [I k, I W, I a, I b, I c, I n, .agg [I w0, I w1, I w2]] gh = some (.tup [I r, I 0], gh) := by
  rw [Apply_eq, applyOf, if_neg (fun h => h hf), if_pos ⟨h0, h1, h2⟩, raw_emod _ _ _ _ _ _ _ hW, hr]

section
variable {W A B : Nat} (hW : 1 ≤ W ∧ W ≤ 8) (hA : A < 2 ^ W) (hB : B < 2 ^ W) (gh : List GObj)
include hW hA hB

theorem ap9 : callL pg 25 [I 9, I W, I A, I B, I 0, I 0, .agg [I W, I W, I 0]] gh = some (.tup [I ((A + B) % 2 ^ W : Nat), I 0], gh) := by
  have hp := pow_lt hW.2
  refine ap_ok (by rcases w_cases hW with rfl | rfl | rfl | rfl | rfl | rfl | rfl | rfl <;> decide) (in_lt (by decide) hW.2 hA) (in_lt (by decide) hW.2 hB) (in_zero (by decide)) hW.2 ?_ gh
  show IntKind.i64.wrap ((A : Int) + B) % _ = _
  rw [wrap_id (by omega) (by omega), Int.natCast_emod]; rfl

theorem ap10 : callL pg 25 [I 10, I W, I A, I B, I 0, I 0, .agg [I W, I W, I 0]] gh = some (.tup [I ((A + 2 ^ W - B) % 2 ^ W : Nat), I 0], gh) := by
  have hp := pow_lt hW.2
  refine ap_ok (by rcases w_cases hW with rfl | rfl | rfl | rfl | rfl | rfl | rfl | rfl <;> decide) (in_lt (by decide) hW.2 hA) (in_lt (by decide) hW.2 hB) (in_zero (by decide)) hW.2 ?_ gh
  show IntKind.i64.wrap ((A : Int) - B) % _ = _
  rw [wrap_id (by omega) (by omega)]
  rcases w_cases hW with rfl | rfl | rfl | rfl | rfl | rfl | rfl | rfl <;> simp at hA hB ⊢ <;> omega

theorem ap12 : callL pg 25 [I 12, I W, I A, I B, I 0, I 0, .agg [I W, I W, I 0]] gh = some (.tup [I (if B = 0 then 2 ^ W - 1 else A / B : Nat), I 0], gh) := by
  have hp := pow_lt hW.2
  refine ap_ok (by rcases w_cases hW with rfl | rfl | rfl | rfl | rfl | rfl | rfl | rfl <;> decide) (in_lt (by decide) hW.2 hA) (in_lt (by decide) hW.2 hB) (in_zero (by decide)) hW.2 ?_ gh
  show (if (B : Int) = 0 then -1 else IntKind.i64.wrap (Int.tdiv (A : Int) B)) % _ = _
  by_cases hb : B = 0
  · rw [if_pos (by omega), if_pos hb]
    rcases w_cases hW with rfl | rfl | rfl | rfl | rfl | rfl | rfl | rfl <;> decide
  · rw [if_neg (by omega), if_neg hb, ← made12 hW hA]
    have e0 : Int.tdiv (A : Int) (B : Int) = ((A / B : Nat) : Int) := (Int.ofNat_tdiv _ _).symm
    have h2 : A / B ≤ A := Nat.div_le_self _ _
    rw [e0]
    generalize A / B = q at h2 ⊢
    exact wrap_id (by omega) (by omega)

theorem ap13 : callL pg 25 [I 13, I W, I A, I B, I 0, I 0, .agg [I W, I W, I 0]] gh = some (.tup [I (if B = 0 then A else A % B : Nat), I 0], gh) := by
  have hp := pow_lt hW.2
  refine ap_ok (by rcases w_cases hW with rfl | rfl | rfl | rfl | rfl | rfl | rfl | rfl <;> decide) (in_lt (by decide) hW.2 hA) (in_lt (by decide) hW.2 hB) (in_zero (by decide)) hW.2 ?_ gh
  show (if (B : Int) = 0 then (A : Int) else Int.tmod (A : Int) B) % _ = _
  by_cases hb : B = 0
  · rw [if_pos (by omega), if_pos hb, small_emod (by omega) (by omega)]
  · rw [if_neg (by omega), if_neg hb, ← made13 hA]
    exact (Int.ofNat_tmod _ _).symm

theorem ap20 (h2 : 2 * W ≤ 8) : callL pg 25 [I 20, I ((2 * W : Nat) : Int), I A, I B, I 0, I 0, .agg [I W, I W, I 0]] gh = some (.tup [I (A * 2 ^ W + B : Nat), I 0], gh) := by
  have hp := pow_lt hW.2
  have hp2 := pow_lt h2
  refine ap_ok (by rcases w_cases hW with rfl | rfl | rfl | rfl | rfl | rfl | rfl | rfl <;> first | decide | omega) (in_lt (by decide) hW.2 hA) (in_lt (by decide) hW.2 hB) (in_zero (by decide)) h2 ?_ gh
  show iOr .i64 (iShl .i64 A W) B % _ = _
  have h4 : (A + 1) * 2 ^ W ≤ 2 ^ W * 2 ^ W := Nat.mul_le_mul_right _ hA
  have hm := made20 hA hB (by omega)
  rw [show 2 * W = W + W by omega, ← hm, ← Int.natCast_mul]
  rw [← Nat.pow_add, Nat.succ_mul, show W + W = 2 * W by omega] at h4
  generalize A * 2 ^ W = q at h4
  rw [wrap_id (n := (q : Int)) (by omega) (by omega), wrap_id (by omega) (by omega)]; omega

theorem ap21 (h2 : 2 * W ≤ 8) : callL pg 25 [I 21, I W, I (A * 2 ^ W + B : Nat), I 0, I 0, I 0, .agg [I ((2 * W : Nat) : Int), I 0, I 0]] gh = some (.tup [I B, I 0], gh) ∧
    callL pg 25 [I 21, I W, I (A * 2 ^ W + B : Nat), I 0, I 0, I W, .agg [I ((2 * W : Nat) : Int), I 0, I 0]] gh = some (.tup [I A, I 0], gh) := by
  have hp := pow_lt hW.2
  have hp2 := pow_lt h2
  have h4 : (A + 1) * 2 ^ W ≤ 2 ^ W * 2 ^ W := Nat.mul_le_mul_right _ hA
  rw [← Nat.pow_add, Nat.succ_mul, show W + W = 2 * W by omega] at h4
  have hJ : A * 2 ^ W + B < 2 ^ (2 * W) := by omega
  have h0 : 0 < 2 ^ W := by omega
  constructor
  · refine ap_ok (by rcases w_cases hW with rfl | rfl | rfl | rfl | rfl | rfl | rfl | rfl <;> first | decide | omega) (in_lt (by decide) h2 hJ) (in_zero (by decide)) (in_zero (by decide)) hW.2 ?_ gh
    show iShr .i64 ((A * 2 ^ W + B : Nat) : Int) ((0 : Nat) : Int) % _ = _
    rw [iShr_nat _ _ (by omega), Nat.pow_zero, Nat.div_one, ← Int.natCast_emod, Nat.mul_comm, Nat.mul_add_mod, Nat.mod_eq_of_lt hB]
  · refine ap_ok (by rcases w_cases hW with rfl | rfl | rfl | rfl | rfl | rfl | rfl | rfl <;> first | decide | omega) (in_lt (by decide) h2 hJ) (in_zero (by decide)) (in_zero (by decide)) hW.2 ?_ gh
    show iShr .i64 ((A * 2 ^ W + B : Nat) : Int) (W : Int) % _ = _
    rw [iShr_nat _ _ (by omega), Nat.mul_comm, Nat.mul_add_div h0, Nat.div_eq_of_lt hB, Nat.add_zero, ← Int.natCast_emod, Nat.mod_eq_of_lt hA]

end

theorem turn_sub {W A B : Nat} (hA : A < 2 ^ W) (hB : B < 2 ^ W) : ((A + B) % 2 ^ W + 2 ^ W - B) % 2 ^ W = A := by
  by_cases h : A + B < 2 ^ W
  · rw [Nat.mod_eq_of_lt h, show A + B + 2 ^ W - B = A + 2 ^ W by omega, Nat.add_mod_right, Nat.mod_eq_of_lt hA]
  · have e : (A + B) % 2 ^ W = A + B - 2 ^ W := by rw [Nat.mod_eq_sub_mod (by omega), Nat.mod_eq_of_lt (by omega)]
    rw [e, show A + B - 2 ^ W + 2 ^ W - B = A by omega, Nat.mod_eq_of_lt hA]

theorem WordTurns_eq (x0 x1 x2 : Int) (h0 : -9223372036854775808 ≤ x0 ∧ x0 ≤ 9223372036854775807) (h1 : -9223372036854775808 ≤ x1 ∧ x1 ≤ 9223372036854775807) (h2 : -9223372036854775808 ≤ x2 ∧ x2 ≤ 9223372036854775807) :
    callL pg 29 [I x0, I x1, I x2] [] = some (B true, []) := by
  have hc := chooseOf_lt x0 (n := 8) (by decide)
  obtain ⟨W, hWd⟩ : ∃ W, W = 1 + chooseOf x0 8 := ⟨_, rfl⟩
  have hW : 1 ≤ W ∧ W ≤ 8 := by omega
  have ew : IntKind.i64.wrap (1 + (chooseOf x0 8 : Int)) = W := by rw [wrap_id (by omega) (by omega)]; omega
  have e2w : IntKind.i64.wrap (2 * (W : Int)) = ((2 * W : Nat) : Int) := by rw [wrap_id (by omega) (by omega)]; omega
  have hT := Two_eq (show W ≤ 61 by omega) []
  have hp0 : 0 < 2 ^ W := Nat.two_pow_pos W
  have hp := pow_lt hW.2
  obtain ⟨A, hAd⟩ : ∃ A, A = chooseOf x1 (2 ^ W) := ⟨_, rfl⟩
  obtain ⟨B', hBd⟩ : ∃ B, B = chooseOf x2 (2 ^ W) := ⟨_, rfl⟩
  have hA : A < 2 ^ W := by rw [hAd]; exact chooseOf_lt _ hp0
  have hB : B' < 2 ^ W := by rw [hBd]; exact chooseOf_lt _ hp0
  have c0 : callL pg 30 [I x0, I 8] [] = some (I (chooseOf x0 8), []) := choose_eq (n := 8) h0.1 h0.2 (by decide) []
  have c1 := choose_eq (n := 2 ^ W) h1.1 h1.2 hp0 []
  have c2 := choose_eq (n := 2 ^ W) h2.1 h2.2 hp0 []
  rw [← hAd] at c1
  rw [← hBd] at c2
  have hS : (A + B') % 2 ^ W < 2 ^ W := Nat.mod_lt _ hp0
  have a9 := ap9 hW hA hB []
  have a10 := ap10 hW hS hB []
  rw [turn_sub hA hB] at a10
  have a12 := ap12 hW hA hB []
  have a13 := ap13 hW hA hB []
  refine callL_fn (fn := f_law_WordTurns) (s := ⟨[(6, B true)], [], []⟩) rfl rfl (D_law_WordTurns_0_ok ?h1) ?r1
  case r1 => simp [finish, results, f_law_WordTurns, resOfs, resOf, resOk]
  case h1 =>
    generalize hS2 : (A + B') % 2 ^ W = S at a9 a10
    generalize hP : 2 ^ W = P at hT c1 c2 a12
    by_cases hb : B' = 0
    · rw [if_pos hb] at a12 a13
      have hbi : (B' : Int) = 0 := by omega
      by_cases h8 : 2 * W ≤ 8
      · have a20 := ap20 hW hA hB [] h8
        obtain ⟨a21, a22⟩ := ap21 hW hA hB [] h8
        generalize A * 2 ^ W + B' = J at a20 a21 a22
        have h8' : ¬ (8 : Int) < ((2 * W : Nat) : Int) := by omega
        simp only [D_law_WordTurns_0, wordBegun_true, c0, callR_t, unB_bool, unI_int, Bool.not_true, br_false, ew, hT, c1, c2, a9, unT_2, degr1_int, a10, a12, a13, bneI, beqI, decide_true, decide_eq_true hbi, e2w, decide_eq_false h8', a20, a21, a22, br_true]
      · have h8' : (8 : Int) < ((2 * W : Nat) : Int) := by omega
        simp only [D_law_WordTurns_0, wordBegun_true, c0, callR_t, unB_bool, unI_int, Bool.not_true, br_false, ew, hT, c1, c2, a9, unT_2, degr1_int, a10, a12, a13, bneI, beqI, decide_true, decide_eq_true hbi, e2w, decide_eq_true h8', br_true]
    · rw [if_neg hb] at a12 a13
      have hbi : ¬ (B' : Int) = 0 := by omega
      have hlt : ¬ (B' : Int) ≤ ((A % B' : Nat) : Int) := by have := Nat.mod_lt A (show 0 < B' by omega); omega
      have hdm : IntKind.i64.wrap (IntKind.i64.wrap (((A / B' : Nat) : Int) * B') + ((A % B' : Nat) : Int)) = A := by
        have h3 := Nat.div_add_mod A B'
        rw [← Int.natCast_mul, Nat.mul_comm]
        generalize B' * (A / B') = u at h3 ⊢
        generalize A % B' = v at h3 ⊢
        rw [wrap_id (n := (u : Int)) (by omega) (by omega), wrap_id (by omega) (by omega)]; omega
      generalize A / B' = q at a12 hdm
      generalize A % B' = r at a13 hdm hlt
      by_cases h8 : 2 * W ≤ 8
      · have a20 := ap20 hW hA hB [] h8
        obtain ⟨a21, a22⟩ := ap21 hW hA hB [] h8
        generalize A * 2 ^ W + B' = J at a20 a21 a22
        have h8' : ¬ (8 : Int) < ((2 * W : Nat) : Int) := by omega
        simp only [D_law_WordTurns_0, wordBegun_true, c0, callR_t, unB_bool, unI_int, Bool.not_true, br_false, ew, hT, c1, c2, a9, unT_2, degr1_int, a10, a12, a13, bneI, beqI, decide_true, decide_eq_false hbi, Bool.not_false, hdm, decide_eq_false hlt, e2w, decide_eq_false h8', a20, a21, a22, br_true]
      · have h8' : (8 : Int) < ((2 * W : Nat) : Int) := by omega
        simp only [D_law_WordTurns_0, wordBegun_true, c0, callR_t, unB_bool, unI_int, Bool.not_true, br_false, ew, hT, c1, c2, a9, unT_2, degr1_int, a10, a12, a13, bneI, beqI, decide_true, decide_eq_false hbi, Bool.not_false, hdm, decide_eq_false hlt, e2w, decide_eq_true h8', br_true]

abbrev insWordTurns : List (Bool × List CS) := [(false, [.int]), (false, [.int]), (false, [.int])]

theorem wordTurns_true (qs : List PV) (h : argsTy insWordTurns qs) : callL pg 29 qs [] = some (B true, []) := by
  obtain ⟨_, _, rfl, h0, h⟩ := argsTy_cons h
  obtain ⟨_, _, rfl, h1, h⟩ := argsTy_cons h
  obtain ⟨_, _, rfl, h2, h⟩ := argsTy_cons h
  obtain rfl := argsTy_nil h
  obtain ⟨x0, rfl, b0⟩ := argTy_int h0
  obtain ⟨x1, rfl, b1⟩ := argTy_int h1
  obtain ⟨x2, rfl, b2⟩ := argTy_int h2
  exact WordTurns_eq x0 x1 x2 b0 b1 b2

end Go.Lw
end
