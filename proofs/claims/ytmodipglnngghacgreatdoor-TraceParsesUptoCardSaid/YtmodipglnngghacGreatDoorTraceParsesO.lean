/-
  The texts that the proof stands on, part 15.
-/
import Derived.Test.YtmodipglnngghacGreatDoorTraceParsesN
import Derived.Laws.Strings
set_option linter.unusedVariables false
set_option linter.unusedSimpArgs false
set_option linter.unnecessarySimpa false

/-! Traces as texts: read, the program's way of a line's numbers. -/
section
namespace Go.Lw
open Go
theorem strEq (x y : List UInt8) : (ByteArray.toList (bA x) == ByteArray.toList (bA y)) = decide (x = y) := by
  rw [ByteArray.toList_eq, ByteArray.toList_eq]
  show (x == y) = _
  by_cases h : x = y <;> simp [h]
theorem atoi_range {l : List UInt8} {v : Int} (h : Lib.atoiAll l = .ok v) : -9223372036854775808 ≤ v ∧ v ≤ 9223372036854775807 := by
  unfold Lib.atoiAll at h
  split at h
  · cases h
  · simp only at h
    split at h
    · cases h
    · cases h
    · split at h
      · cases h
      · split at h
        · cases h
        · injection h with h
          split at h <;> omega
def rdN (x : List UInt8) : Option Int := match Lib.atoiAll x with
  | .ok n => if itoaK n = x then some n else none
  | _ => none
def rdL : List (List UInt8) → Option (List Int)
  | [] => some []
  | x :: r => match rdN x with
    | none => none
    | some n => (rdL r).map (n :: ·)
def readK (s word : List UInt8) : Option (List Int) := match splitK 32 s with
  | [] => none
  | w :: r => if w = word then rdL r else none
theorem splitK_len (c : UInt8) : ∀ l : List UInt8, 1 ≤ (splitK c l).length ∧ (splitK c l).length ≤ l.length + 1
  | [] => by simp [splitK]
  | b :: r => by
    have ih := splitK_len c r
    rw [splitK]
    split
    · simp; omega
    · split
      · simp
      · rename_i x l h
        rw [h] at ih
        simp at ih ⊢; omega
theorem splitK_size (c : UInt8) : ∀ l : List UInt8, ∀ x ∈ splitK c l, x.length ≤ l.length
  | [], x, h => by simp [splitK] at h; simp [h]
  | b :: r, x, h => by
    have ih := splitK_size c r
    rw [splitK] at h
    split at h
    · rcases List.mem_cons.1 h with rfl | h
      · simp
      · have := ih x h; simp; omega
    · split at h
      · simp at h; subst h; simp
      · rename_i y l hs
        rw [hs] at ih
        rcases List.mem_cons.1 h with rfl | h
        · have := ih y (by simp); simp; omega
        · have := ih x (by simp [h]); simp; omega
section
variable {gh : List GObj}
theorem atoi_call {x : List UInt8} (hx : x.length ≤ 3000000) : callL pg 263 [.str (bA x)] gh = match Lib.atoiAll x with
    | .ok v => some (.tup [I v, .nilI], gh)
    | .range => some (.tup [I (Lib.atoiSat x), .someI], gh)
    | _ => some (.tup [I 0, .someI], gh) := by
  have : callL pg 263 [.str (bA x)] gh = libAtoi [.str (bA x)] gh := rfl
  have hz : (bA x).size ≤ 281474976710656 := by simp [ByteArray.size]; omega
  rw [this, libAtoi, if_pos hz]
  rfl
theorem split_call {c : UInt8} {x : List UInt8} (hx : x.length ≤ 3000000) : callL pg 262 [.str (bA x), .str (bA [c])] gh = some (.sl false 1 ((splitK c x).map fun x => .str (bA x)), gh) := by
  have : callL pg 262 [.str (bA x), .str (bA [c])] gh = libSplit [.str (bA x), .str (bA [c])] gh := rfl
  have hz : (bA x).size < 4294967281 := by simp [ByteArray.size]; omega
  rw [this, libSplit]
  exact if_pos hz
theorem cut_call {c : UInt8} {x : List UInt8} (hx : x.length ≤ 3000000) : callL pg 255 [.str (bA x), .str (bA [c])] gh = some (.tup [.str (bA (cutK c x).1), .str (bA (cutK c x).2.1), .bool (cutK c x).2.2], gh) := by
  have : callL pg 255 [.str (bA x), .str (bA [c])] gh = libCut [.str (bA x), .str (bA [c])] gh := rfl
  have hz : (bA x).size < 4294967281 := by simp [ByteArray.size]; omega
  rw [this, libCut]
  exact if_pos hz
theorem read_loop {xs : List (List UInt8)} (hs : ∀ x ∈ xs, x.length ≤ 3000000) (hl : xs.length ≤ 3000000) : ∀ (k i : Nat) (acc : List Int), i + k = xs.length → acc.length + k ≤ 3000000 →
    runL pg f_trace_read_l1 ⟨[(7, .sl true 1 (acc.map I)), (20, .sl false 1 (xs.map fun x => .str (bA x))), (21, I xs.length), (22, I i)], [], gh⟩ =
      match rdL (xs.drop i) with
      | none => some (.ret, ⟨[(4, .sl true 1 []), (5, B false)], [], gh⟩)
      | some l => some (.normal, ⟨[(7, .sl true 1 ((acc ++ l).map I))], [], gh⟩)
  | 0, i, acc, hk, _ => by
    have hlt : ¬ (i : Int) < (xs.length : Int) := by omega
    rw [List.drop_eq_nil_of_le (by omega)]
    simp only [rdL, List.append_nil]
    refine (lp_exit (s1 := ?s1) (D_trace_read_b1_ok ?h1)).trans ?r1
    case h1 => simp only [D_trace_read_b1, decide_eq_false hlt, br_false]; rfl
    case r1 => simp [keep, stays]
  | k + 1, i, acc, hk, ha => by
    have hlt : i < xs.length := by omega
    have hltI : (i : Int) < (xs.length : Int) := by omega
    have hx : (xs.map fun x => PV.str (bA x))[i]? = some (.str (bA xs[i])) := by simp [hlt]
    have hsz := hs _ (List.getElem_mem hlt)
    have hA := atoi_call (gh := gh) hsz
    have hwr : IntKind.i64.wrap ((i : Int) + 1) = ((i + 1 : Nat) : Int) := wrap_nat (by simp only [Sz]; omega)
    have hmx : ((acc.map I).length + 1) * 8 ≤ maxBytes := by
      have : maxBytes = 140737488355328 := rfl
      rw [List.length_map]; omega
    have ih := fun (n : Int) => read_loop hs hl k (i + 1) (acc ++ [n]) (by omega) (by simp; omega)
    rw [List.drop_eq_getElem_cons hlt, rdL, rdN]
    obtain ⟨u, hu⟩ : ∃ u : Int, ((i + 1 : Nat) : Int) = u := ⟨_, rfl⟩
    rw [hu] at hwr ih
    have hxl : xs.length = (xs.map fun x => PV.str (bA x)).length := (List.length_map _).symm
    cases he : Lib.atoiAll xs[i] with
    | ok n =>
      have hr := atoi_range he
      have hI := itoa_eq (gh := gh) hr.1 hr.2
      rw [he] at hA
      simp only at hA ⊢
      by_cases hn : itoaK n = xs[i]
      · rw [if_pos hn]
        have hq : (itoaK n == xs[i]) = true := by rw [hn]; exact beq_self_eq_true _
        clear hn
        have ihn := ih n
        rw [List.map_append, List.map_cons, List.map_nil] at ihn
        have e : (match (some n : Option Int) with | none => none | some n => (rdL (xs.drop (i + 1))).map (n :: ·)) = (rdL (xs.drop (i + 1))).map (n :: ·) := rfl
        simp only
        rw [hxl] at ihn hltI ⊢
        have e2 : ∀ r : Option (List Int), (match r.map (n :: ·) with
            | none => some (IExit.ret, (⟨[(4, .sl true 1 []), (5, B false)], [], gh⟩ : St))
            | some l => some (IExit.normal, ⟨[(7, .sl true 1 ((acc ++ l).map I))], [], gh⟩)) =
            (match r with
            | none => some (IExit.ret, (⟨[(4, .sl true 1 []), (5, B false)], [], gh⟩ : St))
            | some l => some (IExit.normal, ⟨[(7, .sl true 1 ((acc ++ [n] ++ l).map I))], [], gh⟩)) := by
          intro r; cases r <;> simp
        rw [e2]
        generalize xs[i] = x at *
        generalize (xs.map fun x => PV.str (bA x)) = L at *
        generalize acc.map I = aL at *
        refine lp_next (D_trace_read_b1_ok ?h2) ihn
        case h2 => simp [D_trace_read_b1, hltI, hx, hA, hI, hq, hmx, hwr]
      · rw [if_neg hn]
        have hq : (itoaK n == xs[i]) = false := beq_eq_false_iff_ne.2 hn
        clear hn
        simp only
        rw [hxl] at hltI ⊢
        generalize xs[i] = x at *
        generalize (xs.map fun x => PV.str (bA x)) = L at *
        generalize acc.map I = aL at *
        refine lp_ret (D_trace_read_b1_ok ?h3)
        case h3 => simp [D_trace_read_b1, hltI, hx, hA, hI, hq]
    | range =>
      rw [he] at hA
      simp only at hA ⊢
      rw [hxl] at hltI ⊢
      generalize xs[i] = x at *
      generalize (xs.map fun x => PV.str (bA x)) = L at *
      generalize acc.map I = aL at *
      refine lp_ret (D_trace_read_b1_ok ?h5)
      case h5 => simp [D_trace_read_b1, hltI, hx, hA]
    | _ =>
      rw [he] at hA
      simp only at hA ⊢
      rw [hxl] at hltI ⊢
      generalize xs[i] = x at *
      generalize (xs.map fun x => PV.str (bA x)) = L at *
      generalize acc.map I = aL at *
      refine lp_ret (D_trace_read_b1_ok ?h4)
      case h4 => simp [D_trace_read_b1, hltI, hx, hA]
theorem read_eq {s word : List UInt8} (hs : s.length ≤ 2000000) : callL pg 256 [.str (bA s), .str (bA word)] gh = some (.tup [LI ((readK s word).getD []), B (readK s word).isSome], gh) := by
  have hS := split_call (gh := gh) (c := 32) (x := s) (by omega)
  have hn := splitK_len 32 s
  have hsz := splitK_size 32 s
  unfold readK
  generalize splitK 32 s = P at *
  match P, hn with
  | w :: r, hn =>
    have hloop := read_loop (gh := gh) (xs := r) (fun x hx => by have := hsz x (by simp [hx]); omega) (by simp at hn; omega) r.length 0 [] (by omega) (by simp at hn ⊢; omega)
    rw [List.drop_zero, List.map_nil, Int.natCast_zero] at hloop
    simp only [List.nil_append] at hloop
    have hrl : (r.map fun x => PV.str (bA x)).length = r.length := List.length_map _
    simp only [List.map_cons] at hS
    dsimp only
    by_cases hw : w = word
    · have hq : (w == word) = true := by rw [hw]; exact beq_self_eq_true _
      rw [if_pos hw]
      clear hw
      rw [← hrl] at hloop
      generalize (r.map fun x => PV.str (bA x)) = R at *
      cases hr : rdL r with
      | none =>
        rw [hr] at hloop
        simp only at hloop
        refine callL_fn (fn := f_trace_read) (s := ?s1) rfl rfl (D_trace_read_0_ok ?h1) ?r1
        case h1 => simp [D_trace_read_0, hS, hq, hloop]; rfl
        case r1 => simp [finish, results, f_trace_read, resOfs, resOf, resOk]
      | some l =>
        rw [hr] at hloop
        simp only at hloop
        have hk : runL pg f_trace_read_k1 ⟨[(7, .sl true 1 (l.map I))], [], gh⟩ = some (.ret, ⟨[(4, .sl false 1 (l.map I)), (5, B true)], [], gh⟩) := D_trace_read_k1_ok (by simp [D_trace_read_k1])
        have hnb : noGs (l.map I) = true := by
          clear hk hloop hr
          induction l with
          | nil => rfl
          | cons a l ih => exact ih
        simp only [Option.getD_some, Option.isSome_some, LI]
        generalize l.map I = lL at *
        refine callL_fn (fn := f_trace_read) (s := ?s2) rfl rfl (D_trace_read_0_ok ?h2) ?r2
        case h2 => simp [D_trace_read_0, hS, hq, hloop, hk]; rfl
        case r2 => simp [finish, results, f_trace_read, resOfs, resOf, resOk, hnb]
    · have hq : (w == word) = false := beq_eq_false_iff_ne.2 hw
      rw [if_neg hw]
      clear hw
      generalize (r.map fun x => PV.str (bA x)) = R at *
      refine callL_fn (fn := f_trace_read) (s := ?s3) rfl rfl (D_trace_read_0_ok ?h3) ?r3
      case h3 => simp [D_trace_read_0, hS, hq]; rfl
      case r3 => simp [finish, results, f_trace_read, resOfs, resOf, resOk]
end
end Go.Lw
end

/-! Traces as texts: the program's Parse. -/
section
namespace Go.Lw
open Go
theorem cut_split (c : UInt8) : ∀ l : List UInt8, (cutK c l = (l, [], false) ∧ splitK c l = [l]) ∨ ∃ x r, cutK c l = (x, r, true) ∧ splitK c l = x :: splitK c r ∧ l = x ++ c :: r
  | [] => .inl ⟨rfl, rfl⟩
  | b :: l => by
    rw [cutK, splitK]
    by_cases h : b = c
    · rw [if_pos h, if_pos h]; subst h
      exact .inr ⟨[], l, rfl, rfl, rfl⟩
    · rw [if_neg h, if_neg h]
      rcases cut_split c l with ⟨h1, h2⟩ | ⟨x, r, h1, h2, h3⟩
      · rw [h1, h2]; exact .inl ⟨rfl, rfl⟩
      · rw [h1, h2, h3]; exact .inr ⟨b :: x, r, rfl, rfl, rfl⟩
def goL : List (List UInt8) → Option (List (List Int))
  | [] => none
  | x :: r => match r with
    | [] => if x = [] then some [] else none
    | _ :: _ => match readK x inW with
      | none => none
      | some l => (goL r).map (l :: ·)
def goF : List (List UInt8) → Option (List Int × List (List Int))
  | [] => none
  | x :: r => match r with
    | [] => none
    | _ :: _ => match readK x startW with
      | none => none
      | some l => (goL r).map fun ls => (l, ls)
theorem goL_one (x : List UInt8) : goL [x] = if x = [] then some [] else none := by rw [goL]
theorem goL_cons (x y : List UInt8) (t : List (List UInt8)) : goL (x :: y :: t) = match readK x inW with
      | none => none
      | some l => (goL (y :: t)).map (l :: ·) := by rw [goL]
theorem splitK_ne (c : UInt8) (l : List UInt8) : ∃ y t, splitK c l = y :: t := by
  have := (splitK_len c l).1
  match h : splitK c l with
  | [] => rw [h] at this; simp at this
  | y :: t => exact ⟨y, t, rfl⟩
theorem rdL_ok : ∀ {xs : List (List UInt8)} {l : List Int}, rdL xs = some l → I64s l ∧ l.length = xs.length
  | [], l, h => by
    rw [rdL] at h; cases h
    exact ⟨fun n h => (by cases h), rfl⟩
  | x :: xs, l, h => by
    rw [rdL] at h
    cases hr : rdN x with
    | none => rw [hr] at h; cases h
    | some n =>
      rw [hr] at h
      simp only [Option.map_eq_some_iff] at h
      obtain ⟨m, hm, rfl⟩ := h
      obtain ⟨h1, h2⟩ := rdL_ok hm
      refine ⟨fun k hk => ?_, by simp [h2]⟩
      rcases List.mem_cons.1 hk with rfl | hk
      · unfold rdN at hr
        split at hr
        · rename_i v hv
          split at hr
          · cases hr; exact atoi_range hv
          · cases hr
        · cases hr
      · exact h1 k hk
theorem readK_ok {s w : List UInt8} {l : List Int} (h : readK s w = some l) : I64s l ∧ l.length ≤ s.length := by
  unfold readK at h
  have hl := splitK_len 32 s
  split at h
  · cases h
  · rename_i a r hs
    split at h
    · obtain ⟨h1, h2⟩ := rdL_ok h
      rw [hs] at hl
      simp at hl
      exact ⟨h1, by omega⟩
    · cases h
section
variable {gh : List GObj}
abbrev nilT : List PV := [.sl true 1 [], .sl true 1 []]
abbrev errP (gh : List GObj) : Option (IExit × St) := some (.ret, ⟨[(2, .ptr false 0 0), (3, I 1)], [nilT], gh⟩)
theorem ps_k1_bad {i : Int} {x rest word : List UInt8} {ok : Bool} {a b : PV} (hx : x.length ≤ 2000000) (h : ok = false ∨ readK x word = none) :
    runL pg f_trace_Parse_k1 ⟨[(2, .ptr false 0 0), (4, .ptr false 1 0), (5, I i), (6, .str (bA x)), (7, .str (bA rest)), (8, B ok), (9, .str (bA word))], [nilT, [a, b]], gh⟩ = errP gh := by
  have hr := read_eq (gh := gh) (word := word) hx
  refine D_trace_Parse_k1_ok ?_
  simp only [LI] at *
  generalize ((readK x word).getD []).map I = L at *
  cases ok with
  | false =>
    generalize (readK x word).isSome = q at *
    simp [D_trace_Parse_k1, hr]
  | true =>
    have h2 := h.resolve_left (by decide)
    rw [h2] at hr
    simp [D_trace_Parse_k1, hr]
theorem ps_k1_in {i : Nat} {x rest word : List UInt8} {l : List Int} {a : PV} {acc : List PV} (hi : 1 ≤ i) (hx : x.length ≤ 2000000) (h : readK x word = some l) (ha : acc.length ≤ 3000000) :
    runL pg f_trace_Parse_k1 ⟨[(2, .ptr false 0 0), (4, .ptr false 1 0), (5, I i), (6, .str (bA x)), (7, .str (bA rest)), (8, B true), (9, .str (bA word))], [nilT, [a, .sl true 1 acc]], gh⟩ =
      some (.normal, ⟨[(0, .str (bA rest)), (2, .ptr false 0 0), (4, .ptr false 1 0), (5, I i)], [nilT, [a, .sl true 1 (acc ++ [LI l])]], gh⟩) := by
  have hr := read_eq (gh := gh) (word := word) hx
  rw [h] at hr
  have h0 : ((i : Int) == 0) = false := by simp; omega
  have hmx : (acc.length + 1) * 24 ≤ maxBytes := by
    have : maxBytes = 140737488355328 := rfl
    omega
  simp only [Option.getD_some, Option.isSome_some, LI] at *
  generalize l.map I = L at *
  have k2 := D_trace_Parse_k2_ok (pg := pg) (gh := gh) (x5 := (i : Int)) (s7 := bA rest) (vc0_0 := .sl true 1 []) (vc0_1 := .sl true 1 []) (vc1_0 := a) (vc1_1 := .sl true 1 (acc ++ [.sl false 1 L])) rfl
  refine D_trace_Parse_k1_ok ?_
  simp only [D_trace_Parse_k1, h0]
  simp [hr, hmx, k2]
theorem ps_k1_start {x rest word : List UInt8} {l : List Int} {a b : PV} (hx : x.length ≤ 2000000) (h : readK x word = some l) :
    runL pg f_trace_Parse_k1 ⟨[(2, .ptr false 0 0), (4, .ptr false 1 0), (5, I 0), (6, .str (bA x)), (7, .str (bA rest)), (8, B true), (9, .str (bA word))], [nilT, [a, b]], gh⟩ =
      some (.normal, ⟨[(0, .str (bA rest)), (2, .ptr false 0 0), (4, .ptr false 1 0), (5, I 0)], [nilT, [LI l, b]], gh⟩) := by
  have hr := read_eq (gh := gh) (word := word) hx
  rw [h] at hr
  simp only [Option.getD_some, Option.isSome_some, LI] at *
  generalize l.map I = L at *
  have k2 := D_trace_Parse_k2_ok (pg := pg) (gh := gh) (x5 := 0) (s7 := bA rest) (vc0_0 := .sl true 1 []) (vc0_1 := .sl true 1 []) (vc1_0 := .sl false 1 L) (vc1_1 := b) rfl
  refine D_trace_Parse_k1_ok ?_
  simp [D_trace_Parse_k1, hr, k2]
theorem ps_k3 {i : Nat} {s : List UInt8} {a b : PV} (hi : i ≤ 3000000) :
    runL pg f_trace_Parse_k3 ⟨[(0, .str (bA s)), (2, .ptr false 0 0), (4, .ptr false 1 0), (5, I i)], [nilT, [a, b]], gh⟩ = some (.normal, ⟨[(0, .str (bA s)), (2, .ptr false 0 0), (4, .ptr false 1 0), (5, I ((i + 1 : Nat) : Int))], [nilT, [a, b]], gh⟩) := by
  have hwr : IntKind.i64.wrap ((i : Int) + 1) = ((i + 1 : Nat) : Int) := wrap_nat (by simp only [Sz]; omega)
  refine D_trace_Parse_k3_ok ?_
  simp only [D_trace_Parse_k3, hwr]
theorem ps_loop {st : PV} : ∀ (n : Nat) (s : List UInt8) (i : Nat) (acc : List PV), (splitK 10 s).length = n → 1 ≤ i → s.length ≤ 2000000 → i + n ≤ 3000000 → acc.length + n ≤ 3000000 →
    runL pg f_trace_Parse_l1 ⟨[(0, .str (bA s)), (2, .ptr false 0 0), (4, .ptr false 1 0), (5, I i)], [nilT, [st, .sl true 1 acc]], gh⟩ =
      match goL (splitK 10 s) with
      | none => errP gh
      | some ls => some (.normal, ⟨[(2, .ptr false 0 0), (4, .ptr false 1 0)], [nilT, [st, .sl true 1 (acc ++ ls.map fun l => LI l)]], gh⟩) := by
  intro n
  induction n with
  | zero =>
    intro s i acc h
    have := (splitK_len 10 s).1
    omega
  | succ n ih =>
    intro s i acc hn hi hs hin ha
    have h0 : ((i : Int) == 0) = false := by simp; omega
    rcases cut_split 10 s with ⟨h1, h2⟩ | ⟨x, r, h1, h2, h3⟩
    · rw [h2, goL_one]
      by_cases he : s = []
      · rw [if_pos he]
        subst he
        simp only [List.map_nil, List.append_nil]
        refine (lp_exit (s1 := ?s1) (D_trace_Parse_b1_ok ?h1)).trans ?r1
        case h1 =>
          simp only [D_trace_Parse_b1, h0]
          simp; rfl
        case r1 => simp [keep, stays]
      · rw [if_neg he]
        have hc := cut_call (gh := gh) (c := 10) (x := s) (by omega)
        rw [h1] at hc
        have hb := ps_k1_bad (gh := gh) (i := i) (x := s) (rest := []) (word := inW) (ok := false) (a := st) (b := .sl true 1 acc) hs (.inl rfl)
        have hne : (s == []) = false := beq_eq_false_iff_ne.2 he
        have hne2 : (ByteArray.toList (bA s) == ByteArray.toList ByteArray.empty) = false := by rw [emptyBA, strEq]; exact decide_eq_false he
        refine lp_ret (D_trace_Parse_b1_ok ?h2)
        case h2 =>
          simp only [D_trace_Parse_b1, h0, hne2]
          simp [hc, hb]
    · have hlen : s.length = x.length + (r.length + 1) := by rw [h3]; simp
      have hne2 : (ByteArray.toList (bA s) == ByteArray.toList ByteArray.empty) = false := by
        rw [emptyBA, strEq]
        exact decide_eq_false (by intro h; rw [h] at h3; simp at h3)
      have hc := cut_call (gh := gh) (c := 10) (x := s) (by omega)
      rw [h1] at hc
      obtain ⟨y, t, hyt⟩ := splitK_ne 10 r
      rw [h2, hyt, goL_cons]
      have hnr : (splitK 10 r).length = n := by rw [h2] at hn; simpa using hn
      cases hk : readK x inW with
      | none =>
        have hb := ps_k1_bad (gh := gh) (i := i) (x := x) (rest := r) (word := inW) (ok := true) (a := st) (b := .sl true 1 acc) (by omega) (.inr hk)
        simp only
        refine lp_ret (D_trace_Parse_b1_ok ?h3)
        case h3 =>
          simp only [D_trace_Parse_b1, h0, hne2]
          simp [hc, hb]
      | some l =>
        have hb := ps_k1_in (gh := gh) (i := i) (x := x) (rest := r) (word := inW) (a := st) (acc := acc) hi (by omega) hk (by omega)
        have hk3 := ps_k3 (gh := gh) (i := i) (s := r) (a := st) (b := .sl true 1 (acc ++ [LI l])) (by omega)
        have ih2 := ih r (i + 1) (acc ++ [LI l]) hnr (by omega) (by omega) (by omega) (by simp; omega)
        rw [hyt] at ih2
        have e2 : (match (goL (y :: t)).map (l :: ·) with
            | none => errP gh
            | some ls => some (IExit.normal, (⟨[(2, .ptr false 0 0), (4, .ptr false 1 0)], [nilT, [st, .sl true 1 (acc ++ ls.map fun l => LI l)]], gh⟩ : St))) =
            (match goL (y :: t) with
            | none => errP gh
            | some ls => some (IExit.normal, (⟨[(2, .ptr false 0 0), (4, .ptr false 1 0)], [nilT, [st, .sl true 1 (acc ++ [LI l] ++ ls.map fun l => LI l)]], gh⟩ : St))) := by
          cases goL (y :: t) <;> simp
        rw [e2, ← ih2]
        obtain ⟨u, hu⟩ : ∃ u : Int, ((i + 1 : Nat) : Int) = u := ⟨_, rfl⟩
        rw [hu] at hk3 ⊢
        refine lp_next (s1 := ⟨[(0, .str (bA r)), (2, .ptr false 0 0), (4, .ptr false 1 0), (5, I u)], [nilT, [st, .sl true 1 (acc ++ [LI l])]], gh⟩) (D_trace_Parse_b1_ok ?h4) rfl
        case h4 =>
          simp only [LI] at *
          generalize l.map I = L at *
          simp only [D_trace_Parse_b1, h0, hne2]
          simp [hc, hb, hk3]
          rfl
end
end Go.Lw
end

/-! Traces as texts: the program's Parse, whole. -/
section
namespace Go.Lw
open Go
def parseP (s : List UInt8) : Option (List Int × List (List Int)) := match goF (splitK 10 s) with
  | none => none
  | some t => if (printT t.1 t.2).2 = 0 then some t else none
abbrev ansT (t : Option (List Int × List (List Int))) : PV := match t with
  | none => .tup [.agg [.sl false 1 [], .sl false 1 []], I 1]
  | some t => .tup [traceV t.1 t.2, I 0]
theorem goF_one (x : List UInt8) : goF [x] = none := rfl
theorem goF_cons (x y : List UInt8) (t : List (List UInt8)) : goF (x :: y :: t) = match readK x startW with
      | none => none
      | some l => (goL (y :: t)).map fun ls => (l, ls) := rfl
theorem goL_ok : ∀ {xs : List (List UInt8)} {ls : List (List Int)}, goL xs = some ls → (∀ l ∈ ls, I64s l) ∧ ls.length ≤ xs.length
  | [], ls, h => by rw [goL] at h; cases h
  | [x], ls, h => by
    rw [goL_one] at h
    split at h
    · cases h; exact ⟨fun l h => (by cases h), by simp⟩
    · cases h
  | x :: y :: t, ls, h => by
    rw [goL_cons] at h
    split at h
    · cases h
    · rename_i l hl
      rw [Option.map_eq_some_iff] at h
      obtain ⟨m, hm, rfl⟩ := h
      obtain ⟨h1, h2⟩ := goL_ok hm
      refine ⟨fun k hk => ?_, by simp at h2 ⊢; omega⟩
      rcases List.mem_cons.1 hk with rfl | hk
      · exact (readK_ok hl).1
      · exact h1 k hk
section
variable {gh : List GObj}
theorem ps_k4 {st : List Int} {ins : List (List Int)} (hs : I64s st) (hi : ∀ l ∈ ins, I64s l) (hn : ins.length ≤ 3000000) :
    runL pg f_trace_Parse_k4 ⟨[(2, .ptr false 0 0), (4, .ptr false 1 0)], [nilT, [LI st, .sl true 1 (ins.map fun l => LI l)]], gh⟩ =
      if (printT st ins).2 = 0 then some (.ret, ⟨[(2, .ptr false 0 0), (3, I 0)], [[LI st, LsI ins]], gh⟩) else errP gh := by
  have hp := pprint_eq (gh := gh) hs hi hn
  generalize (printT st ins).1 = T at *
  generalize (printT st ins).2 = e at *
  simp only [traceV, LsI, LI] at *
  generalize (ins.map fun l => PV.sl false 1 (l.map I)) = L at *
  generalize st.map I = sL at *
  by_cases h : e = 0
  · rw [if_pos h]; subst h
    refine D_trace_Parse_k4_ok ?_
    simp [D_trace_Parse_k4, hp]
  · rw [if_neg h]
    refine D_trace_Parse_k4_ok ?_
    simp [D_trace_Parse_k4, hp, h]
theorem fin_err : finish f_trace_Parse gh (.ret, ⟨[(2, .ptr false 0 0), (3, I 1)], [nilT], gh⟩) = some (.tup [.agg [.sl false 1 [], .sl false 1 []], I 1], gh) := by
  simp [finish, results, f_trace_Parse, resOfs, resOf, resOk, St.cellsAt, grab]
theorem noGs_ints2 (l : List Int) : noGs (l.map I) = true := by
  induction l with
  | nil => rfl
  | cons a l ih => exact ih
theorem noGs_ls2 (P : List (List Int)) : noGs (P.map fun l => LI l) = true := by
  induction P with
  | nil => rfl
  | cons a P ih =>
    rw [List.map_cons, noGs_cons, ih, noG_sl, noGs_ints2]; rfl
theorem fin_ok {st : List Int} {ins : List (List Int)} : finish f_trace_Parse gh (.ret, ⟨[(2, .ptr false 0 0), (3, I 0)], [[LI st, LsI ins]], gh⟩) = some (.tup [traceV st ins, I 0], gh) := by
  have h1 := noGs_ints2 st
  have h2 := noGs_ls2 ins
  simp only [traceV, LsI, LI] at *
  generalize (ins.map fun l => PV.sl false 1 (l.map I)) = L at *
  generalize st.map I = sL at *
  simp [finish, results, f_trace_Parse, resOfs, resOf, resOk, St.cellsAt, grab, h1, h2]
theorem Parse_eq {s : List UInt8} (hs : s.length ≤ 2000000) : callL pg 247 [.str (bA s)] gh = some (ansT (parseP s), gh) := by
  have hc := cut_call (gh := gh) (c := 10) (x := s) (by omega)
  have hl := splitK_len 10 s
  unfold parseP
  rcases cut_split 10 s with ⟨h1, h2⟩ | ⟨x, r, h1, h2, h3⟩
  · rw [h2, goF_one]
    rw [h1] at hc
    have hb := ps_k1_bad (gh := gh) (i := 0) (x := s) (rest := []) (word := startW) (ok := false) (a := .sl true 1 []) (b := .sl true 1 []) hs (.inl rfl)
    have hl1 : runL pg f_trace_Parse_l1 ⟨[(0, .str (bA s)), (2, .ptr false 0 0), (4, .ptr false 1 0), (5, I 0)], [nilT, nilT], gh⟩ = errP gh := by
      refine lp_ret (D_trace_Parse_b1_ok ?h1)
      case h1 =>
        have hne2 := strEq s []
        rw [← emptyBA] at hne2
        by_cases he : s = []
        · rw [decide_eq_true he] at hne2
          simp only [D_trace_Parse_b1, hne2]
          simp [hc, hb]
        · rw [decide_eq_false he] at hne2
          simp only [D_trace_Parse_b1, hne2]
          simp [hc, hb]
    refine callL_fn (fn := f_trace_Parse) rfl rfl (D_trace_Parse_0_ok ?h2) fin_err
    case h2 => simp [D_trace_Parse_0, hl1]
  · have hlen : s.length = x.length + (r.length + 1) := by rw [h3]; simp
    have hne2 : (ByteArray.toList (bA s) == ByteArray.toList ByteArray.empty) = false := by
      rw [emptyBA, strEq]
      exact decide_eq_false (by intro h; rw [h] at h3; simp at h3)
    rw [h1] at hc
    obtain ⟨y, t, hyt⟩ := splitK_ne 10 r
    have hlr := splitK_len 10 r
    rw [h2, hyt, goF_cons]
    cases hk : readK x startW with
    | none =>
      have hb := ps_k1_bad (gh := gh) (i := 0) (x := x) (rest := r) (word := startW) (ok := true) (a := .sl true 1 []) (b := .sl true 1 []) (by omega) (.inr hk)
      have hl1 : runL pg f_trace_Parse_l1 ⟨[(0, .str (bA s)), (2, .ptr false 0 0), (4, .ptr false 1 0), (5, I 0)], [nilT, nilT], gh⟩ = errP gh := by
        refine lp_ret (D_trace_Parse_b1_ok ?h3)
        case h3 =>
          simp only [D_trace_Parse_b1, hne2]
          simp [hc, hb]
      refine callL_fn (fn := f_trace_Parse) rfl rfl (D_trace_Parse_0_ok ?h4) fin_err
      case h4 => simp [D_trace_Parse_0, hl1]
    | some l =>
      obtain ⟨k1, k2⟩ := readK_ok hk
      have hb := ps_k1_start (gh := gh) (x := x) (rest := r) (word := startW) (a := .sl true 1 []) (b := .sl true 1 []) (by omega) hk
      have hk3 := ps_k3 (gh := gh) (i := 0) (s := r) (a := LI l) (b := .sl true 1 []) (by omega)
      have hlp := ps_loop (gh := gh) (st := LI l) (splitK 10 r).length r 1 [] rfl (by omega) (by omega) (by omega) (by simp; omega)
      rw [hyt] at hlp
      simp only [List.nil_append] at hlp
      simp only [Int.natCast_zero, Nat.zero_add] at hk3
      have hl1 : runL pg f_trace_Parse_l1 ⟨[(0, .str (bA s)), (2, .ptr false 0 0), (4, .ptr false 1 0), (5, I 0)], [nilT, nilT], gh⟩ =
          match goL (y :: t) with
          | none => errP gh
          | some ls => some (.normal, ⟨[(2, .ptr false 0 0), (4, .ptr false 1 0)], [nilT, [LI l, .sl true 1 (ls.map fun l => LI l)]], gh⟩) := by
        refine Eq.trans ?_ hlp
        refine lp_next (s1 := ⟨[(0, .str (bA r)), (2, .ptr false 0 0), (4, .ptr false 1 0), (5, I ((1 : Nat) : Int))], [nilT, [LI l, .sl true 1 []]], gh⟩) (D_trace_Parse_b1_ok ?h5) rfl
        case h5 =>
          simp only [LI] at *
          generalize l.map I = L at *
          simp only [D_trace_Parse_b1, hne2]
          simp [hc, hb, hk3]
          rfl
      cases hg : goL (y :: t) with
      | none =>
        rw [hg] at hl1
        simp only at hl1
        refine callL_fn (fn := f_trace_Parse) rfl rfl (D_trace_Parse_0_ok ?h6) fin_err
        case h6 => simp [D_trace_Parse_0, hl1]
      | some ls =>
        rw [hg] at hl1
        simp only at hl1
        obtain ⟨g1, g2⟩ := goL_ok hg
        have hyl : (y :: t).length ≤ r.length + 1 := by rw [← hyt]; exact hlr.2
        have h4 := ps_k4 (gh := gh) k1 g1 (by omega)
        simp only [Option.map_some]
        by_cases hp : (printT l ls).2 = 0
        · rw [if_pos hp] at h4 ⊢
          refine callL_fn (fn := f_trace_Parse) rfl rfl (D_trace_Parse_0_ok ?h7) fin_ok
          case h7 =>
            simp only [LsI, LI] at *
            generalize (ls.map fun l => PV.sl false 1 (l.map I)) = L at *
            generalize l.map I = lL at *
            simp [D_trace_Parse_0, hl1, h4]
        · rw [if_neg hp] at h4 ⊢
          refine callL_fn (fn := f_trace_Parse) rfl rfl (D_trace_Parse_0_ok ?h8) fin_err
          case h8 =>
            simp only [LsI, LI] at *
            generalize (ls.map fun l => PV.sl false 1 (l.map I)) = L at *
            generalize l.map I = lL at *
            simp [D_trace_Parse_0, hl1, h4]
end
end Go.Lw
end

/-! Traces as texts: the document's Cut and Undigit. -/
section
namespace Go.Lw
open Go
theorem bA_get (s : List UInt8) (n : Nat) : (bA s)[n]? = s[n]? := by
  by_cases h : n < s.length
  · have h2 : n < (bA s).size := by simpa [ByteArray.size] using h
    rw [getElem?_pos (bA s) n h2, List.getElem?_eq_getElem h]
    rfl
  · have h2 : ¬ n < (bA s).size := by simpa [ByteArray.size] using h
    rw [getElem?_neg (bA s) n h2, List.getElem?_eq_none (by omega)]
theorem bA_size (s : List UInt8) : (bA s).size = s.length := by simp [ByteArray.size]
theorem bA_extract (s : List UInt8) (i j : Nat) : (bA s).extract i j = bA ((s.take j).drop i) := by
  apply ByteArray.ext
  rw [ByteArray.data_extract]
  simp [List.drop_take]
theorem splitK_none {c : UInt8} : ∀ {l : List UInt8}, c ∉ l → splitK c l = [l]
  | [], _ => rfl
  | b :: l, h => by
    simp only [List.mem_cons, not_or] at h
    rw [splitK, if_neg (Ne.symm h.1), splitK_none h.2]
theorem splitK_some {c : UInt8} {q : List UInt8} : ∀ {p : List UInt8}, c ∉ p → splitK c (p ++ c :: q) = p :: splitK c q
  | [], _ => by simp [splitK]
  | b :: p, h => by
    simp only [List.mem_cons, not_or] at h
    rw [List.cons_append, splitK, if_neg (Ne.symm h.1), splitK_some h.2]
section
variable {gh : List GObj}
abbrev SL8 (xs : List (List UInt8)) : List PV := xs.map fun x => .str (bA x)
theorem rc_k1 {s : List UInt8} {c : Int} {out : List PV} {f i : Nat} (hi : i ≤ 3000000) :
    runL pg f_ref_Cut_k1 ⟨[(0, .str (bA s)), (1, .int .u8 c), (5, .sl true 1 out), (6, I f), (7, I i)], [], gh⟩ = some (.normal, ⟨[(0, .str (bA s)), (1, .int .u8 c), (5, .sl true 1 out), (6, I f), (7, I ((i + 1 : Nat) : Int))], [], gh⟩) := by
  have hwr : IntKind.i64.wrap ((i : Int) + 1) = ((i + 1 : Nat) : Int) := wrap_nat (by simp only [Sz]; omega)
  refine D_ref_Cut_k1_ok ?_
  simp only [D_ref_Cut_k1, hwr, stK_sl]
theorem rc_loop {s : List UInt8} {c : UInt8} (hs : s.length ≤ 2000000) : ∀ (q a p : List UInt8) (out : List (List UInt8)), c ∉ p → s = a ++ (p ++ q) → out.length ≤ a.length →
    ∃ (out' : List (List UInt8)) (f : Nat), runL pg f_ref_Cut_l1 ⟨[(0, .str (bA s)), (1, .int .u8 c.toNat), (5, .sl true 1 (SL8 out)), (6, I a.length), (7, I ((a.length + p.length : Nat) : Int))], [], gh⟩ =
      some (.normal, ⟨[(0, .str (bA s)), (5, .sl true 1 (SL8 out')), (6, I f)], [], gh⟩) ∧ f ≤ s.length ∧ out'.length ≤ s.length ∧ out' ++ [s.drop f] = out ++ splitK c (p ++ q)
  | [], a, p, out, hp, he, ho => by
    rw [List.append_nil] at he ⊢
    have hlen : s.length = a.length + p.length := by rw [he]; simp
    have hlt : decide (((a.length + p.length : Nat) : Int) < (((bA s).size : Nat) : Int)) = false := decide_eq_false (by rw [bA_size]; omega)
    refine ⟨out, a.length, ?_, by omega, by omega, ?_⟩
    · refine (lp_exit (s1 := ?s1) (D_ref_Cut_b1_ok ?h1)).trans ?r1
      case h1 => simp only [D_ref_Cut_b1, hlt, br_false, stK_sl]; rfl
      case r1 => simp [keep, stays]
    · rw [splitK_none hp, he, List.drop_left]
  | b :: q, a, p, out, hp, he, ho => by
    have hlen : s.length = a.length + (p.length + (q.length + 1)) := by rw [he]; simp
    have hlt : decide (((a.length + p.length : Nat) : Int) < (((bA s).size : Nat) : Int)) = true := decide_eq_true (by rw [bA_size]; omega)
    have hg : (bA s)[a.length + p.length]? = some b := by
      rw [bA_get, he, ← List.append_assoc, List.getElem?_append_right (by simp), List.length_append, Nat.sub_self]; rfl
    have h0 : decide (0 ≤ ((a.length + p.length : Nat) : Int)) = true := decide_eq_true (by omega)
    by_cases hb : b = c
    · subst hb
      have hwr : IntKind.i64.wrap (((a.length + p.length : Nat) : Int) + 1) = ((a.length + p.length + 1 : Nat) : Int) := wrap_nat (by simp only [Sz]; omega)
      have hex : (bA s).extract a.length (a.length + p.length) = bA p := by
        rw [bA_extract, he]
        congr 1
        rw [← List.append_assoc, List.take_left' (by simp), List.drop_left]
      have hmx : ((SL8 out).length + 1) * 16 ≤ maxBytes := by
        have : maxBytes = 140737488355328 := rfl
        rw [List.length_map]; omega
      have hk := rc_k1 (gh := gh) (s := s) (c := (b.toNat : Int)) (out := SL8 (out ++ [p])) (f := a.length + p.length + 1) (i := a.length + p.length) (by omega)
      obtain ⟨out', f, e1, e2, e3, e4⟩ := rc_loop (c := b) hs q (a ++ p ++ [b]) [] (out ++ [p]) (by simp) (by rw [he]; simp) (by simp; omega)
      refine ⟨out', f, ?_, e2, e3, ?_⟩
      · have ea : (a ++ p ++ [b]).length = a.length + p.length + 1 := by simp; omega
        rw [ea] at e1
        rw [List.length_nil, Nat.add_zero] at e1
        rw [← e1]
        have hsn : SL8 (out ++ [p]) = SL8 out ++ [.str (bA p)] := by simp [SL8]
        rw [hsn] at hk ⊢
        have hle : decide (a.length ≤ a.length + p.length ∧ a.length + p.length ≤ (bA s).size) = true := decide_eq_true ⟨by omega, by rw [bA_size]; omega⟩
        generalize SL8 out = O at *
        generalize hi : a.length + p.length = i at *
        obtain ⟨u, hu⟩ : ∃ u : Int, ((i + 1 : Nat) : Int) = u := ⟨_, rfl⟩
        rw [hu] at hk hwr ⊢
        refine lp_next (s1 := ⟨[(0, .str (bA s)), (1, .int .u8 b.toNat), (5, .sl true 1 (O ++ [.str (bA p)])), (6, I u), (7, I u)], [], gh⟩) (D_ref_Cut_b1_ok ?h2) rfl
        case h2 =>
          simp only [D_ref_Cut_b1, hlt, isX_str, h0, Int.toNat_natCast, hg, gd_true, ob_some, beq_self_eq_true, br_true, ssX_str, bd_some, hle, hex, apX_sl, hmx, stK_sl, List.length_singleton, and_self, decide_true, hwr]
          simp [hk]
      · rw [e4, List.nil_append, splitK_some hp]; simp
    · have hne : ((b.toNat : Int) == (c.toNat : Int)) = false := by
        apply beq_eq_false_iff_ne.2
        intro h
        exact hb (UInt8.toNat_inj.1 (by omega))
      have hk := rc_k1 (gh := gh) (s := s) (c := (c.toNat : Int)) (out := SL8 out) (f := a.length) (i := a.length + p.length) (by omega)
      obtain ⟨out', f, e1, e2, e3, e4⟩ := rc_loop (c := c) hs q a (p ++ [b]) out (by simp [hp, Ne.symm hb]) (by rw [he]; simp) ho
      refine ⟨out', f, ?_, e2, e3, ?_⟩
      · have ea : a.length + (p ++ [b]).length = a.length + p.length + 1 := by simp; omega
        rw [ea] at e1
        rw [← e1]
        generalize SL8 out = O at *
        generalize hi : a.length + p.length = i at *
        refine lp_next (s1 := ⟨[(0, .str (bA s)), (1, .int .u8 c.toNat), (5, .sl true 1 O), (6, I a.length), (7, I ((i + 1 : Nat) : Int))], [], gh⟩) (D_ref_Cut_b1_ok ?h3) rfl
        case h3 =>
          simp only [D_ref_Cut_b1, hlt, isX_str, h0, Int.toNat_natCast, hg, gd_true, ob_some, hne, br_true, br_false, stK_sl]
          simp [hk]
      · rw [e4]; simp
theorem RCut_eq {s : List UInt8} {c : UInt8} (hs : s.length ≤ 2000000) : callL pg 380 [.str (bA s), .int .u8 c.toNat] gh = some (.sl false 1 (SL8 (splitK c s)), gh) := by
  obtain ⟨out', f, e1, e2, e3, e4⟩ := rc_loop (gh := gh) (c := c) hs s [] [] [] (by simp) rfl (by simp)
  simp only [List.length_nil, Nat.add_zero, Int.natCast_zero, List.nil_append, SL8, List.map_nil] at e1 e4
  have hex : (bA s).extract f (bA s).size = bA (s.drop f) := by
    rw [bA_extract, bA_size, List.take_length]
  have hmx : ((out'.map fun x => PV.str (bA x)).length + 1) * 16 ≤ maxBytes := by
    have : maxBytes = 140737488355328 := rfl
    rw [List.length_map]; omega
  have hL : SL8 (splitK c s) = (out'.map fun x => PV.str (bA x)) ++ [.str (bA (s.drop f))] := by
    rw [← e4]; simp [SL8]
  rw [hL]
  have hnb : ∀ xs : List (List UInt8), noGs (xs.map fun x => PV.str (bA x)) = true := by
    intro xs
    induction xs with
    | nil => rfl
    | cons a l ih => exact ih
  have hnb2 : noGs ((out'.map fun x => PV.str (bA x)) ++ [.str (bA (s.drop f))]) = true := by
    have := hnb (out' ++ [s.drop f])
    simpa using this
  have hle : decide (f ≤ (bA s).size ∧ (bA s).size ≤ (bA s).size) = true := decide_eq_true ⟨by rw [bA_size]; omega, Nat.le_refl _⟩
  have h0 : decide (0 ≤ (f : Int)) = true := decide_eq_true (by omega)
  generalize (out'.map fun x => PV.str (bA x)) = O at *
  have hk : runL pg f_ref_Cut_k2 ⟨[(0, .str (bA s)), (5, .sl true 1 O), (6, I f)], [], gh⟩ = some (.ret, ⟨[(4, .sl true 1 (O ++ [.str (bA (s.drop f))]))], [], gh⟩) := by
    refine D_ref_Cut_k2_ok ?_
    simp only [D_ref_Cut_k2, ssX_str, bd_none, bd_some, h0, gd_true, Int.toNat_natCast, hle, hex, apX_sl, hmx, List.length_singleton, and_self, decide_true]
  refine callL_fn (fn := f_ref_Cut) (s := ?s1) rfl rfl (D_ref_Cut_0_ok ?h1) ?r1
  case h1 => simp [D_ref_Cut_0, e1, hk]; rfl
  case r1 => simp [finish, results, f_ref_Cut, resOfs, resOf, resOk, hnb2]
end
end Go.Lw
end

/-! Traces as texts: the document's Undigit. -/
section
namespace Go.Lw
open Go
def undF : Int → List UInt8 → Int
  | n, [] => n
  | n, b :: r => if b.toNat < 48 ∨ 57 < b.toNat then -1 else undF (10 * n + b.toNat - 48) r
theorem undF_bad {n : Int} {b : UInt8} {r : List UInt8} (h : b.toNat < 48 ∨ 57 < b.toNat) : undF n (b :: r) = -1 := by rw [undF, if_pos h]
theorem undF_good {n : Int} {b : UInt8} {r : List UInt8} (h : ¬ (b.toNat < 48 ∨ 57 < b.toNat)) : undF n (b :: r) = undF (10 * n + b.toNat - 48) r := by rw [undF, if_neg h]
def undK (x : List UInt8) : Int :=
  if x = [] ∨ 9 < x.length ∨ (1 < x.length ∧ x.head? = some 48) then -1 else undF 0 x
section
variable {gh : List GObj}
theorem ud_loop {x : List UInt8} (hx : x.length ≤ 9) : ∀ (k i : Nat) (n : Int), i + k = x.length → 0 ≤ n → n < 10 ^ i →
    runL pg f_ref_Undigit_l1 ⟨[(0, .str (bA x)), (3, I n), (4, I i)], [], gh⟩ =
      if undF n (x.drop i) = -1 then some (.ret, ⟨[(2, I (-1))], [], gh⟩) else some (.normal, ⟨[(3, I (undF n (x.drop i)))], [], gh⟩)
  | 0, i, n, hk, h0, h1 => by
    have hlt : decide ((i : Int) < (((bA x).size : Nat) : Int)) = false := decide_eq_false (by rw [bA_size]; omega)
    rw [List.drop_eq_nil_of_le (by omega), undF, if_neg (by omega)]
    refine (lp_exit (s1 := ?s1) (D_ref_Undigit_b1_ok ?h1)).trans ?r1
    case h1 => simp only [D_ref_Undigit_b1, hlt, br_false]; rfl
    case r1 => simp [keep, stays]
  | k + 1, i, n, hk, h0, h1 => by
    have hlt0 : i < x.length := by omega
    have hlt : decide ((i : Int) < (((bA x).size : Nat) : Int)) = true := decide_eq_true (by rw [bA_size]; omega)
    have hg : (bA x)[i]? = some x[i] := by rw [bA_get, List.getElem?_eq_getElem hlt0]
    have hz : decide (0 ≤ (i : Int)) = true := decide_eq_true (by omega)
    rw [List.drop_eq_getElem_cons hlt0]
    have hb := (x[i]).toNat_lt
    generalize x[i] = b at *
    by_cases hlo : b.toNat < 48
    · rw [undF_bad (.inl hlo), if_pos rfl]
      have hd : decide (((b.toNat : Nat) : Int) < 48) = true := decide_eq_true (by omega)
      refine lp_ret (D_ref_Undigit_b1_ok ?h2)
      case h2 => simp only [D_ref_Undigit_b1, hlt, br_true, isX_str, hz, gd_true, Int.toNat_natCast, hg, ob_some, hd]
    by_cases hhi : 57 < b.toNat
    · rw [undF_bad (.inr hhi), if_pos rfl]
      have hd : decide (((b.toNat : Nat) : Int) < 48) = false := decide_eq_false (by omega)
      have hd2 : decide (57 < ((b.toNat : Nat) : Int)) = true := decide_eq_true (by omega)
      refine lp_ret (D_ref_Undigit_b1_ok ?h3)
      case h3 => simp only [D_ref_Undigit_b1, hlt, br_true, br_false, isX_str, hz, gd_true, Int.toNat_natCast, hg, ob_some, hd, hd2]
    rw [undF_good (by omega)]
    have hd : decide (((b.toNat : Nat) : Int) < 48) = false := decide_eq_false (by omega)
    have hd2 : decide (57 < ((b.toNat : Nat) : Int)) = false := decide_eq_false (by omega)
    have hp : (10 : Int) ^ i ≤ 1000000000 := by
      have : ∀ v : Fin 10, (10 : Int) ^ v.val ≤ 1000000000 := by decide
      exact this ⟨i, by omega⟩
    have hp2 : (10 : Int) ^ (i + 1) = 10 * 10 ^ i := by rw [Int.pow_succ, Int.mul_comm]
    have w1 : IntKind.i64.wrap (10 * n) = 10 * n := wrap_id (by omega) (by omega)
    have w2 : IntKind.i64.wrap ((b.toNat : Nat) : Int) = ((b.toNat : Nat) : Int) := wrap_id (by omega) (by omega)
    have w3 : IntKind.i64.wrap (10 * n + ((b.toNat : Nat) : Int)) = 10 * n + ((b.toNat : Nat) : Int) := wrap_id (by omega) (by omega)
    have w4 : IntKind.i64.wrap (10 * n + ((b.toNat : Nat) : Int) - 48) = 10 * n + ((b.toNat : Nat) : Int) - 48 := wrap_id (by omega) (by omega)
    have hwr : IntKind.i64.wrap ((i : Int) + 1) = ((i + 1 : Nat) : Int) := wrap_nat (by simp only [Sz]; omega)
    have ih := ud_loop hx k (i + 1) (10 * n + ((b.toNat : Nat) : Int) - 48) (by omega) (by omega) (by omega)
    rw [← ih]
    refine lp_next (s1 := ⟨[(0, .str (bA x)), (3, I (10 * n + ((b.toNat : Nat) : Int) - 48)), (4, I ((i + 1 : Nat) : Int))], [], gh⟩) (D_ref_Undigit_b1_ok ?h4) rfl
    case h4 => simp only [D_ref_Undigit_b1, hlt, br_true, br_false, isX_str, hz, gd_true, Int.toNat_natCast, hg, ob_some, hd, hd2, w1, w2, w3, w4, hwr]
theorem Undigit_eq {x : List UInt8} : callL pg 381 [.str (bA x)] gh = some (I (undK x), gh) := by
  have he := strEq x []
  rw [← emptyBA] at he
  unfold undK
  by_cases h1 : x = []
  · rw [if_pos (.inl h1)]
    rw [decide_eq_true h1] at he
    refine callL_fn (fn := f_ref_Undigit) (s := ?s1) rfl rfl (D_ref_Undigit_0_ok ?h1) ?r1
    case h1 => simp only [D_ref_Undigit_0, he, br_true]; rfl
    case r1 => simp [finish, results, f_ref_Undigit, resOfs, resOf, resOk]
  rw [decide_eq_false h1] at he
  by_cases h2 : 9 < x.length
  · rw [if_pos (.inr (.inl h2))]
    have hd : decide (9 < (((bA x).size : Nat) : Int)) = true := decide_eq_true (by rw [bA_size]; omega)
    refine callL_fn (fn := f_ref_Undigit) (s := ?s2) rfl rfl (D_ref_Undigit_0_ok ?h2) ?r2
    case h2 => simp only [D_ref_Undigit_0, he, hd, br_true, br_false]; rfl
    case r2 => simp [finish, results, f_ref_Undigit, resOfs, resOf, resOk]
  have hd : decide (9 < (((bA x).size : Nat) : Int)) = false := decide_eq_false (by rw [bA_size]; omega)
  obtain ⟨b, r, rfl⟩ : ∃ b r, x = b :: r := by
    cases x with
    | nil => exact absurd rfl h1
    | cons b r => exact ⟨b, r, rfl⟩
  have hg : (bA (b :: r))[0]? = some b := by rw [bA_get]; rfl
  have hl := ud_loop (gh := gh) (x := b :: r) (by omega) (b :: r).length 0 0 (by omega) (by omega) (by decide)
  rw [List.drop_zero, Int.natCast_zero] at hl
  by_cases h3 : 1 < (b :: r).length
  · have hd3 : decide (1 < (((bA (b :: r)).size : Nat) : Int)) = true := decide_eq_true (by rw [bA_size]; omega)
    by_cases h4 : b = 48
    · rw [if_pos (.inr (.inr ⟨h3, by rw [h4]; rfl⟩))]
      have hb : (((b.toNat : Nat) : Int) == 48) = true := by rw [h4]; rfl
      refine callL_fn (fn := f_ref_Undigit) (s := ?s3) rfl rfl (D_ref_Undigit_0_ok ?h3) ?r3
      case h3 => simp only [D_ref_Undigit_0, he, hd, hd3, br_true, br_false, isX_str, show decide ((0 : Int) ≤ 0) = true from rfl, gd_true, show (0 : Int).toNat = 0 from rfl, hg, ob_some, hb]; rfl
      case r3 => simp [finish, results, f_ref_Undigit, resOfs, resOf, resOk]
    · rw [if_neg (by
        rintro (h | h | ⟨_, h⟩)
        · exact h1 h
        · exact h2 h
        · simp at h; exact h4 h)]
      have hb : (((b.toNat : Nat) : Int) == 48) = false := beq_eq_false_iff_ne.2 (fun h => h4 (UInt8.toNat_inj.1 (by show b.toNat = 48; omega)))
      by_cases h5 : undF 0 (b :: r) = -1
      · rw [if_pos h5] at hl
        rw [h5]
        refine callL_fn (fn := f_ref_Undigit) (s := ⟨[(2, I (-1))], [], gh⟩) rfl rfl (D_ref_Undigit_0_ok ?h4) ?r4
        case h4 => simp only [D_ref_Undigit_0, he, hd, hd3, br_true, br_false, isX_str, show decide ((0 : Int) ≤ 0) = true from rfl, gd_true, show (0 : Int).toNat = 0 from rfl, hg, ob_some, hb, hl, kR_some, nx_ret]
        case r4 => simp [finish, results, f_ref_Undigit, resOfs, resOf, resOk]
      · rw [if_neg h5] at hl
        generalize undF 0 (b :: r) = v at *
        have hk : runL pg f_ref_Undigit_k1 ⟨[(3, I v)], [], gh⟩ = some (.ret, ⟨[(2, I v)], [], gh⟩) := D_ref_Undigit_k1_ok rfl
        refine callL_fn (fn := f_ref_Undigit) (s := ⟨[(2, I v)], [], gh⟩) rfl rfl (D_ref_Undigit_0_ok ?h5) ?r5
        case h5 => simp only [D_ref_Undigit_0, he, hd, hd3, br_true, br_false, isX_str, show decide ((0 : Int) ≤ 0) = true from rfl, gd_true, show (0 : Int).toNat = 0 from rfl, hg, ob_some, hb, hl, kR_some, nx_normal, hk]
        case r5 => simp [finish, results, f_ref_Undigit, resOfs, resOf, resOk]
  · have hd3 : decide (1 < (((bA (b :: r)).size : Nat) : Int)) = false := decide_eq_false (by rw [bA_size]; omega)
    rw [if_neg (by
      rintro (h | h | ⟨h, _⟩)
      · exact h1 h
      · exact h2 h
      · exact h3 h)]
    by_cases h5 : undF 0 (b :: r) = -1
    · rw [if_pos h5] at hl
      rw [h5]
      refine callL_fn (fn := f_ref_Undigit) (s := ⟨[(2, I (-1))], [], gh⟩) rfl rfl (D_ref_Undigit_0_ok ?h6) ?r6
      case h6 => simp only [D_ref_Undigit_0, he, hd, hd3, br_true, br_false, hl, kR_some, nx_ret]
      case r6 => simp [finish, results, f_ref_Undigit, resOfs, resOf, resOk]
    · rw [if_neg h5] at hl
      generalize undF 0 (b :: r) = v at *
      have hk : runL pg f_ref_Undigit_k1 ⟨[(3, I v)], [], gh⟩ = some (.ret, ⟨[(2, I v)], [], gh⟩) := D_ref_Undigit_k1_ok rfl
      refine callL_fn (fn := f_ref_Undigit) (s := ⟨[(2, I v)], [], gh⟩) rfl rfl (D_ref_Undigit_0_ok ?h7) ?r7
      case h7 => simp only [D_ref_Undigit_0, he, hd, hd3, br_true, br_false, hl, kR_some, nx_normal, hk]
      case r7 => simp [finish, results, f_ref_Undigit, resOfs, resOf, resOk]
end
theorem atoi_byte : ∀ n : Fin 256, Lib.atoiAll (itoaK (n.val : Int)) = .ok (n.val : Int) := by decide +kernel
theorem und_byte : ∀ n : Fin 256, undK (itoaK (n.val : Int)) = (n.val : Int) := by decide +kernel
theorem rdN_byte {n : Int} (h : 0 ≤ n ∧ n ≤ 255) : rdN (itoaK n) = some n := by
  have h2 := atoi_byte ⟨n.toNat, by omega⟩
  rw [show ((n.toNat : Nat) : Int) = n by omega] at h2
  unfold rdN
  rw [h2]
  simp
theorem undK_byte {n : Int} (h : 0 ≤ n ∧ n ≤ 255) : undK (itoaK n) = n := by
  have h2 := und_byte ⟨n.toNat, by omega⟩
  rwa [show ((n.toNat : Nat) : Int) = n by omega] at h2
theorem rdN_itoa {x : List UInt8} {n : Int} (h : rdN x = some n) : x = itoaK n := by
  unfold rdN at h
  split at h
  · split at h
    · rename_i h2; cases h; exact h2.symm
    · cases h
  · cases h
theorem undF_ge : ∀ {r : List UInt8} {n : Int}, 0 ≤ n → undF n r ≠ -1 → n * 10 ^ r.length ≤ undF n r
  | [], n, h0, _ => by simp [undF]
  | b :: r, n, h0, h => by
    rw [undF] at h ⊢
    split at h
    · exact absurd rfl h
    rename_i hb
    rw [if_neg hb]
    have ih := undF_ge (r := r) (n := 10 * n + b.toNat - 48) (by omega) h
    refine Int.le_trans ?_ ih
    rw [List.length_cons, Int.pow_succ, Int.mul_comm (10 ^ r.length) 10, ← Int.mul_assoc]
    exact Int.mul_le_mul_of_nonneg_right (by omega) (Int.pow_nonneg (by decide))
theorem und_small : ∀ a : Fin 10, undK [UInt8.ofNat (48 + a.val)] = (a.val : Int) ∧ itoaK (a.val : Int) = [UInt8.ofNat (48 + a.val)] := by decide +kernel
theorem und_small2 : ∀ a b : Fin 10, a.val ≠ 0 → itoaK ((10 * a.val + b.val : Nat) : Int) = [UInt8.ofNat (48 + a.val), UInt8.ofNat (48 + b.val)] := by decide +kernel
theorem und_small3 : ∀ a b c : Fin 10, a.val ≠ 0 → itoaK ((100 * a.val + 10 * b.val + c.val : Nat) : Int) = [UInt8.ofNat (48 + a.val), UInt8.ofNat (48 + b.val), UInt8.ofNat (48 + c.val)] := by decide +kernel
theorem byte_of {b : UInt8} (h : ¬ (b.toNat < 48 ∨ 57 < b.toNat)) : ∃ a : Fin 10, b = UInt8.ofNat (48 + a.val) ∧ b.toNat = 48 + a.val := by
  refine ⟨⟨b.toNat - 48, by omega⟩, ?_, by simp; omega⟩
  apply UInt8.toNat_inj.1
  simp
  omega
theorem undK_itoa {x : List UInt8} (h0 : 0 ≤ undK x) (h1 : undK x ≤ 255) : x = itoaK (undK x) := by
  unfold undK at *
  split at h0
  · omega
  rename_i hc
  rw [if_neg hc] at h1 ⊢
  simp only [not_or, not_and] at hc
  obtain ⟨c1, c2, c3⟩ := hc
  match x, c1, c2, c3 with
  | [b], _, _, _ =>
    simp only [undF] at h0 h1 ⊢
    split at h0
    · omega
    rename_i hb
    rw [if_neg hb]
    obtain ⟨a, rfl, ha⟩ := byte_of hb
    rw [ha]
    have := (und_small a).2
    rw [show (10 * 0 + ((48 + a.val : Nat) : Int) - 48) = (a.val : Int) by omega]
    exact this.symm
  | [b, c], _, _, c3 =>
    simp only [undF] at h0 h1 ⊢
    split at h0
    · omega
    rename_i hb
    split at h0
    · omega
    rename_i hcc
    rw [if_neg hb, if_neg hcc]
    obtain ⟨a, rfl, ha⟩ := byte_of hb
    obtain ⟨d, rfl, hd⟩ := byte_of hcc
    have hne : a.val ≠ 0 := by
      intro h
      have := c3 (by simp)
      simp [h] at this
    rw [ha, hd]
    have := und_small2 a d hne
    rw [show (10 * (10 * 0 + ((48 + a.val : Nat) : Int) - 48) + ((48 + d.val : Nat) : Int) - 48) = ((10 * a.val + d.val : Nat) : Int) by omega]
    exact this.symm
  | [b, c, e], _, _, c3 =>
    simp only [undF] at h0 h1 ⊢
    split at h0
    · omega
    rename_i hb
    split at h0
    · omega
    rename_i hcc
    split at h0
    · omega
    rename_i hce
    rw [if_neg hb, if_neg hcc, if_neg hce]
    obtain ⟨a, rfl, ha⟩ := byte_of hb
    obtain ⟨d, rfl, hd⟩ := byte_of hcc
    obtain ⟨f, rfl, hf⟩ := byte_of hce
    have hne : a.val ≠ 0 := by
      intro h
      have := c3 (by simp)
      simp [h] at this
    rw [ha, hd, hf]
    have := und_small3 a d f hne
    rw [show (10 * (10 * (10 * 0 + ((48 + a.val : Nat) : Int) - 48) + ((48 + d.val : Nat) : Int) - 48) + ((48 + f.val : Nat) : Int) - 48) = ((100 * a.val + 10 * d.val + f.val : Nat) : Int) by omega]
    exact this.symm
  | b :: c :: e :: f :: r, _, _, c3 =>
    exfalso
    rw [undF] at h0 h1
    split at h0
    · omega
    rename_i hb
    rw [if_neg hb] at h1
    obtain ⟨a, rfl, ha⟩ := byte_of hb
    have hne : a.val ≠ 0 := by
      intro h
      have := c3 (by simp)
      simp [h] at this
    have hge := undF_ge (r := c :: e :: f :: r) (n := 10 * 0 + ((UInt8.ofNat (48 + a.val)).toNat : Int) - 48) (by omega) (by omega)
    rw [ha] at hge h1
    have hp : (1000 : Int) ≤ 10 ^ (c :: e :: f :: r).length := by
      rw [show (c :: e :: f :: r).length = r.length + 3 from rfl, Int.pow_add]
      have : (1 : Int) ≤ 10 ^ r.length := Int.pow_pos (by decide)
      omega
    have hm : (1 : Int) * 1000 ≤ (10 * 0 + ((48 + a.val : Nat) : Int) - 48) * 10 ^ (c :: e :: f :: r).length := Int.mul_le_mul (by omega) hp (by decide) (by omega)
    omega
end Go.Lw
end

/-! Traces as texts: the document's ParseTrace. -/
section
namespace Go.Lw
open Go
def rdR (x word : List UInt8) : Option (List Int) := match splitK 32 x with
  | [] => none
  | w :: r => if w = word then some (r.map undK) else none
def rgoL : List (List UInt8) → Option (List (List Int))
  | [] => none
  | x :: r => match r with
    | [] => if x = [] then some [] else none
    | _ :: _ => match rdR x inW with
      | none => none
      | some l => (rgoL r).map (l :: ·)
def rgoF : List (List UInt8) → Option (List Int × List (List Int))
  | [] => none
  | x :: r => match r with
    | [] => none
    | _ :: _ => match rdR x startW with
      | none => none
      | some l => (rgoL r).map fun ls => (l, ls)
theorem rgoL_one (x : List UInt8) : rgoL [x] = if x = [] then some [] else none := by rw [rgoL]
theorem rgoL_cons (x y : List UInt8) (t : List (List UInt8)) : rgoL (x :: y :: t) = match rdR x inW with
      | none => none
      | some l => (rgoL (y :: t)).map (l :: ·) := by rw [rgoL]
theorem rgoF_one (x : List UInt8) : rgoF [x] = none := rfl
theorem rgoF_cons (x y : List UInt8) (t : List (List UInt8)) : rgoF (x :: y :: t) = match rdR x startW with
      | none => none
      | some l => (rgoL (y :: t)).map fun ls => (l, ls) := rfl
def parseR (s : List UInt8) : Option (List Int × List (List Int)) := match rgoF (splitK 10 s) with
  | none => none
  | some t => if (printT t.1 t.2).2 = 0 then some t else none
theorem undF_range : ∀ {r : List UInt8} {n : Int} {k : Nat}, 0 ≤ n → n < 10 ^ k → -1 ≤ undF n r ∧ undF n r < 10 ^ (k + r.length)
  | [], n, k, h0, h1 => by rw [undF]; exact ⟨by omega, by simpa using h1⟩
  | b :: r, n, k, h0, h1 => by
    by_cases hb : b.toNat < 48 ∨ 57 < b.toNat
    · rw [undF_bad hb]
      have : (0 : Int) < 10 ^ (k + (b :: r).length) := Int.pow_pos (by decide)
      omega
    · rw [undF_good hb]
      have hp2 : (10 : Int) ^ (k + 1) = 10 * 10 ^ k := by rw [Int.pow_succ, Int.mul_comm]
      have := undF_range (r := r) (n := 10 * n + b.toNat - 48) (k := k + 1) (by omega) (by omega)
      rwa [show k + (b :: r).length = k + 1 + r.length by simp; omega]
theorem undK_range (x : List UInt8) : -9223372036854775808 ≤ undK x ∧ undK x ≤ 9223372036854775807 := by
  unfold undK
  split
  · omega
  · rename_i h
    simp only [not_or, not_and] at h
    have h2 := undF_range (r := x) (n := 0) (k := 0) (by decide) (by decide)
    have h3 : ∀ v : Fin 10, (10 : Int) ^ (0 + v.val) ≤ 1000000000 := by decide
    have h4 := h3 ⟨x.length, by omega⟩
    simp only at h4
    omega
theorem rdR_ok {x word : List UInt8} {l : List Int} (h : rdR x word = some l) : I64s l ∧ l.length ≤ x.length := by
  unfold rdR at h
  have hl := splitK_len 32 x
  split at h
  · cases h
  · rename_i a r hs
    split at h
    · cases h
      rw [hs] at hl
      simp at hl
      refine ⟨fun n hn => ?_, by simp; omega⟩
      obtain ⟨y, -, rfl⟩ := List.mem_map.1 hn
      exact undK_range y
    · cases h
theorem rgoL_ok : ∀ {xs : List (List UInt8)} {ls : List (List Int)} {N : Nat}, rgoL xs = some ls → (∀ x ∈ xs, x.length ≤ N) → (∀ l ∈ ls, I64s l ∧ l.length ≤ N) ∧ ls.length ≤ xs.length
  | [], ls, N, h, _ => by rw [rgoL] at h; cases h
  | [x], ls, N, h, _ => by
    rw [rgoL_one] at h
    split at h
    · cases h; exact ⟨fun l h => (by cases h), by simp⟩
    · cases h
  | x :: y :: t, ls, N, h, hN => by
    rw [rgoL_cons] at h
    split at h
    · cases h
    · rename_i l hl
      rw [Option.map_eq_some_iff] at h
      obtain ⟨m, hm, rfl⟩ := h
      obtain ⟨h1, h2⟩ := rgoL_ok hm (fun z hz => hN z (by simp at hz ⊢; exact .inr hz))
      refine ⟨fun k hk => ?_, by simp at h2 ⊢; omega⟩
      rcases List.mem_cons.1 hk with rfl | hk
      · have h3 := rdR_ok hl
        have h4 := hN x (by simp)
        exact ⟨h3.1, by omega⟩
      · exact h1 k hk
section
variable {gh : List GObj}
theorem rq_l2 {lines parts : List PV} {n i : Int} {vc : List PV} {ps : List (List UInt8)} (hp : parts = SL8 ps) (hs : ps.length ≤ 3000000) {a b c d : PV} (hv : vc = [a, b]) : ∀ (k j : Nat) (acc : List Int), j + k = ps.length → acc.length + k ≤ 3000000 →
    runL pg f_ref_ParseTrace_l2 ⟨[(2, .ptr false 0 0), (4, .sl false 1 lines), (5, I n), (6, .ptr false 1 0), (7, I i), (8, .sl false 1 parts), (9, .sl true 1 (acc.map I)), (10, I j)], [vc, [c, d]], gh⟩ =
      some (.normal, ⟨[(2, .ptr false 0 0), (4, .sl false 1 lines), (5, I n), (6, .ptr false 1 0), (7, I i), (8, .sl false 1 parts), (9, .sl true 1 ((acc ++ (ps.drop j).map undK).map I))], [vc, [c, d]], gh⟩)
  | 0, j, acc, hk, _ => by
    subst hp hv
    have hlt : decide (j < (SL8 ps).length) = false := decide_eq_false (by rw [List.length_map]; omega)
    rw [List.drop_eq_nil_of_le (by omega), List.map_nil, List.append_nil]
    generalize SL8 ps = P at *
    generalize acc.map I = A at *
    refine (lp_exit (s1 := ?s1) (D_ref_ParseTrace_b2_ok ?h1)).trans ?r1
    case h1 => simp [D_ref_ParseTrace_b2, hlt]; rfl
    case r1 => simp [keep, stays]
  | k + 1, j, acc, hk, ha => by
    have hlt0 : j < ps.length := by omega
    have hlt : decide (j < parts.length) = true := decide_eq_true (by rw [hp, List.length_map]; omega)
    have hx : parts[j]? = some (.str (bA ps[j])) := by rw [hp]; simp [hlt0]
    have hU := Undigit_eq (gh := gh) (x := ps[j])
    have hwr : IntKind.i64.wrap ((j : Int) + 1) = ((j + 1 : Nat) : Int) := wrap_nat (by simp only [Sz]; omega)
    have hmx : ((acc.map I).length + 1) * 8 ≤ maxBytes := by
      have : maxBytes = 140737488355328 := rfl
      rw [List.length_map]; omega
    have ih := rq_l2 (lines := lines) (n := n) (i := i) (c := c) (d := d) hp hs hv k (j + 1) (acc ++ [undK ps[j]]) (by omega) (by simp; omega)
    rw [List.drop_eq_getElem_cons hlt0, List.map_cons]
    have e : acc ++ undK ps[j] :: (ps.drop (j + 1)).map undK = (acc ++ [undK ps[j]]) ++ (ps.drop (j + 1)).map undK := by simp
    rw [e]
    generalize ((acc ++ [undK ps[j]]) ++ (ps.drop (j + 1)).map undK).map I = R at *
    rw [List.map_append, List.map_cons, List.map_nil] at ih
    generalize undK ps[j] = v at *
    generalize ps[j] = x at *
    subst hv
    obtain ⟨u, hu⟩ : ∃ u : Int, ((j + 1 : Nat) : Int) = u := ⟨_, rfl⟩
    rw [hu] at hwr ih
    generalize acc.map I = A at *
    refine lp_next (D_ref_ParseTrace_b2_ok ?h2) ih
    case h2 => simp [D_ref_ParseTrace_b2, hlt, hx, hU, hmx, hwr]
abbrev errQ (gh : List GObj) : Option (IExit × St) := some (.ret, ⟨[(2, .ptr false 0 0), (3, I 1)], [nilT], gh⟩)
theorem rq_k2 {lines : List PV} {n : Int} {i : Nat} {a b : PV} (hi : i ≤ 3000000) :
    runL pg f_ref_ParseTrace_k2 ⟨[(2, .ptr false 0 0), (4, .sl false 1 lines), (5, I n), (6, .ptr false 1 0), (7, I i)], [nilT, [a, b]], gh⟩ = some (.normal, ⟨[(2, .ptr false 0 0), (4, .sl false 1 lines), (5, I n), (6, .ptr false 1 0), (7, I ((i + 1 : Nat) : Int))], [nilT, [a, b]], gh⟩) := by
  have hwr : IntKind.i64.wrap ((i : Int) + 1) = ((i + 1 : Nat) : Int) := wrap_nat (by simp only [Sz]; omega)
  refine D_ref_ParseTrace_k2_ok ?_
  simp only [D_ref_ParseTrace_k2, hwr, stK_sl]
theorem rq_line {lines : List PV} {n : Nat} {i : Nat} {x : List UInt8} {a : PV} {acc : List PV} (hx : lines[i]? = some (.str (bA x))) (hin : i < n) (hi : i ≤ 3000000) (hxl : x.length ≤ 2000000) (ha : acc.length ≤ 3000000) :
    runL pg f_ref_ParseTrace_b1 ⟨[(2, .ptr false 0 0), (4, .sl false 1 lines), (5, I n), (6, .ptr false 1 0), (7, I i)], [nilT, [a, .sl true 1 acc]], gh⟩ =
      match rdR x (if i = 0 then startW else inW) with
      | none => errQ gh
      | some l => some (.normal, ⟨[(2, .ptr false 0 0), (4, .sl false 1 lines), (5, I n), (6, .ptr false 1 0), (7, I ((i + 1 : Nat) : Int))], [nilT, if i = 0 then [LI l, .sl true 1 acc] else [a, .sl true 1 (acc ++ [LI l])]], gh⟩) := by
  have hC := RCut_eq (gh := gh) (s := x) (c := 32) hxl
  rw [show ((32 : UInt8).toNat : Int) = 32 from rfl] at hC
  have hlt : decide ((i : Int) < (n : Int)) = true := decide_eq_true (by omega)
  have hl := splitK_len 32 x
  have hk2 := fun a b => rq_k2 (gh := gh) (lines := lines) (n := (n : Int)) (i := i) (a := a) (b := b) hi
  have hmx : (acc.length + 1) * 24 ≤ maxBytes := by
    have : maxBytes = 140737488355328 := rfl
    omega
  unfold rdR
  generalize splitK 32 x = P at *
  match P, hl with
  | w :: r, hl =>
    have h2 := rq_l2 (gh := gh) (lines := lines) (parts := SL8 (w :: r)) (n := (n : Int)) (i := (i : Int)) (ps := w :: r) (vc := nilT) (a := .sl true 1 []) (b := .sl true 1 []) (c := a) (d := .sl true 1 acc) rfl (by omega) rfl r.length 1 [] (by simp; omega) (by simp at hl ⊢; omega)
    rw [List.map_nil, List.nil_append, show (w :: r).drop 1 = r from rfl, Int.natCast_one] at h2
    have hw0 : (SL8 (w :: r))[0]? = some (.str (bA w)) := rfl
    generalize SL8 (w :: r) = Q at *
    dsimp only
    generalize r.map undK = ns at *
    have hk1 : ∀ (c : Bool) (word : List UInt8), (if i = 0 then startW else inW) = word → c = decide (w = word) →
        runL pg f_ref_ParseTrace_k1 ⟨[(2, .ptr false 0 0), (4, .sl false 1 lines), (5, I n), (6, .ptr false 1 0), (7, I i), (8, .sl false 1 Q), (9, .sl true 1 (ns.map I))], [nilT, [a, .sl true 1 acc]], gh⟩ =
          if c then some (.normal, ⟨[(2, .ptr false 0 0), (4, .sl false 1 lines), (5, I n), (6, .ptr false 1 0), (7, I i)], [nilT, if i = 0 then [LI ns, .sl true 1 acc] else [a, .sl true 1 (acc ++ [LI ns])]], gh⟩) else errQ gh := by
      intro c word hword hc
      simp only [LI]
      generalize ns.map I = N at *
      by_cases h0 : i = 0
      · rw [if_pos h0] at hword
        subst h0
        have hq : (w == [115, 116, 97, 114, 116]) = c := by
          rw [hc, ← hword]
          show (w == startW) = decide (w = startW)
          by_cases h : w = startW <;> simp [h]
        cases c with
        | true =>
          rw [if_pos rfl]
          refine D_ref_ParseTrace_k1_ok ?_
          simp only [D_ref_ParseTrace_k1, Int.natCast_zero, show ((0 : Int) == 0) = true from rfl, br_true, degr_sl, isC_sl, idX_sl, show decide ((0 : Int) ≤ 0 ∧ 1 = 1) = true from rfl, gd_true, show (0 : Int).toNat = 0 from rfl, hw0, ob_some]
          simp [hq]
        | false =>
          rw [if_neg (by decide)]
          refine D_ref_ParseTrace_k1_ok ?_
          simp only [D_ref_ParseTrace_k1, Int.natCast_zero, show ((0 : Int) == 0) = true from rfl, br_true, degr_sl, isC_sl, idX_sl, show decide ((0 : Int) ≤ 0 ∧ 1 = 1) = true from rfl, gd_true, show (0 : Int).toNat = 0 from rfl, hw0, ob_some]
          simp [hq]
      · rw [if_neg h0] at hword
        have hz : ((i : Int) == 0) = false := by simp; omega
        have hpos : decide (0 < (i : Int)) = true := decide_eq_true (by omega)
        have hq : (w == [105, 110]) = c := by
          rw [hc, ← hword]
          show (w == inW) = decide (w = inW)
          by_cases h : w = inW <;> simp [h]
        rw [if_neg h0]
        cases c with
        | true =>
          rw [if_pos rfl]
          refine D_ref_ParseTrace_k1_ok ?_
          simp only [D_ref_ParseTrace_k1, hz, hpos, br_true, br_false, degr_sl, isC_sl, stK_sl, idX_sl, show decide ((0 : Int) ≤ 0 ∧ 1 = 1) = true from rfl, gd_true, show (0 : Int).toNat = 0 from rfl, hw0, ob_some]
          simp [hq, hmx]
        | false =>
          rw [if_neg (by decide)]
          refine D_ref_ParseTrace_k1_ok ?_
          simp only [D_ref_ParseTrace_k1, hz, hpos, br_true, br_false, degr_sl, isC_sl, stK_sl, idX_sl, show decide ((0 : Int) ≤ 0 ∧ 1 = 1) = true from rfl, gd_true, show (0 : Int).toNat = 0 from rfl, hw0, ob_some]
          simp [hq]
    have hk1' := hk1 _ _ rfl rfl
    generalize (if i = 0 then startW else inW) = word at *
    have hix : decide (0 ≤ (i : Int) ∧ 1 = 1) = true := decide_eq_true ⟨by omega, rfl⟩
    by_cases hw : w = word
    · rw [if_pos hw]
      rw [decide_eq_true hw, if_pos rfl] at hk1'
      simp only
      have hk2' := hk2 (if i = 0 then LI ns else a) (if i = 0 then .sl true 1 acc else .sl true 1 (acc ++ [LI ns]))
      have e : [(if i = 0 then LI ns else a), (if i = 0 then (.sl true 1 acc : PV) else .sl true 1 (acc ++ [LI ns]))] = (if i = 0 then [LI ns, .sl true 1 acc] else [a, .sl true 1 (acc ++ [LI ns])]) := by
        by_cases h : i = 0 <;> simp [h]
      rw [e] at hk2'
      obtain ⟨p, q, hpq⟩ : ∃ p q, (if i = 0 then [LI ns, (.sl true 1 acc : PV)] else [a, .sl true 1 (acc ++ [LI ns])]) = [p, q] := by
        by_cases h : i = 0
        · rw [if_pos h]; exact ⟨_, _, rfl⟩
        · rw [if_neg h]; exact ⟨_, _, rfl⟩
      rw [hpq] at hk1' hk2' ⊢
      clear e hpq hk1 hk2
      obtain ⟨u, hu⟩ : ∃ u : Int, ((i + 1 : Nat) : Int) = u := ⟨_, rfl⟩
      rw [hu] at hk2' ⊢
      generalize ns.map I = N at *
      refine D_ref_ParseTrace_b1_ok ?_
      simp only [D_ref_ParseTrace_b1, hlt, br_true, degr_sl, isC_sl, stK_sl, idX_sl, hix, gd_true, Int.toNat_natCast, hx, ob_some]
      simp [hC, h2, hk1', hk2']
      rfl
    · rw [if_neg hw]
      rw [decide_eq_false hw, if_neg (by decide)] at hk1'
      simp only
      generalize ns.map I = N at *
      refine D_ref_ParseTrace_b1_ok ?_
      simp only [D_ref_ParseTrace_b1, hlt, br_true, degr_sl, isC_sl, stK_sl, idX_sl, hix, gd_true, Int.toNat_natCast, hx, ob_some]
      simp [hC, h2, hk1']
end
end Go.Lw
end

/-! Traces as texts: the document's ParseTrace, whole. -/
section
namespace Go.Lw
open Go
section
variable {gh : List GObj}
theorem rq_loop {xs : List (List UInt8)} {n : Nat} {a : PV} (hn : xs.length = n + 1) (hlast : xs[n]? = some []) (hN : n ≤ 2000000) (hs : ∀ x ∈ xs, x.length ≤ 2000000) : ∀ (k i : Nat) (acc : List PV), i + k = n → 1 ≤ i → acc.length + k ≤ 3000000 →
    runL pg f_ref_ParseTrace_l1 ⟨[(2, .ptr false 0 0), (4, .sl false 1 (SL8 xs)), (5, I n), (6, .ptr false 1 0), (7, I i)], [nilT, [a, .sl true 1 acc]], gh⟩ =
      match rgoL (xs.drop i) with
      | none => errQ gh
      | some ls => some (.normal, ⟨[(2, .ptr false 0 0), (6, .ptr false 1 0)], [nilT, [a, .sl true 1 (acc ++ ls.map fun l => LI l)]], gh⟩)
  | 0, i, acc, hk, h1, _ => by
    obtain rfl : i = n := by omega
    have hlt : decide ((i : Int) < (i : Int)) = false := decide_eq_false (by omega)
    have hd : xs.drop i = [[]] := by
      obtain ⟨hlt2, he⟩ := List.getElem?_eq_some_iff.1 hlast
      rw [List.drop_eq_getElem_cons hlt2, he, List.drop_eq_nil_of_le (by omega)]
    rw [hd, rgoL_one, if_pos rfl]
    simp only [List.map_nil, List.append_nil]
    generalize SL8 xs = L at *
    refine (lp_exit (s1 := ?s1) (D_ref_ParseTrace_b1_ok ?h1)).trans ?r1
    case h1 => simp only [D_ref_ParseTrace_b1, hlt, br_false, stK_sl]; rfl
    case r1 => simp [keep, stays]
  | k + 1, i, acc, hk, h1, ha => by
    have hlt : i < xs.length := by omega
    have hx : (SL8 xs)[i]? = some (.str (bA xs[i])) := by simp [hlt]
    have hst := rq_line (gh := gh) (lines := SL8 xs) (n := n) (a := a) (acc := acc) hx (by omega) (by omega) (hs _ (List.getElem_mem hlt)) (by omega)
    simp only [if_neg (show i ≠ 0 by omega)] at hst
    have hd : xs.drop i = xs[i] :: xs.drop (i + 1) := List.drop_eq_getElem_cons hlt
    obtain ⟨y, t, hyt⟩ : ∃ y t, xs.drop (i + 1) = y :: t := by
      have : i + 1 < xs.length := by omega
      exact ⟨_, _, List.drop_eq_getElem_cons this⟩
    rw [hd, hyt, rgoL_cons]
    cases hr : rdR xs[i] inW with
    | none =>
      rw [hr] at hst
      exact lp_ret hst
    | some l =>
      rw [hr] at hst
      simp only at hst ⊢
      have ih := rq_loop (a := a) hn hlast hN hs k (i + 1) (acc ++ [LI l]) (by omega) (by omega) (by simp; omega)
      rw [hyt] at ih
      have e2 : (match (rgoL (y :: t)).map (l :: ·) with
          | none => errQ gh
          | some ls => some (IExit.normal, (⟨[(2, .ptr false 0 0), (6, .ptr false 1 0)], [nilT, [a, .sl true 1 (acc ++ ls.map fun l => LI l)]], gh⟩ : St))) =
          (match rgoL (y :: t) with
          | none => errQ gh
          | some ls => some (IExit.normal, (⟨[(2, .ptr false 0 0), (6, .ptr false 1 0)], [nilT, [a, .sl true 1 (acc ++ [LI l] ++ ls.map fun l => LI l)]], gh⟩ : St))) := by
        cases rgoL (y :: t) <;> simp
      rw [e2]
      exact lp_next hst ih
theorem rq_k3 {st : List Int} {ins : List (List Int)} (hs : I64s st) (hi : ∀ l ∈ ins, I64s l ∧ l.length ≤ 2000000) (hst : st.length ≤ 2000000) (hn : ins.length ≤ 2000000) :
    runL pg f_ref_ParseTrace_k3 ⟨[(2, .ptr false 0 0), (6, .ptr false 1 0)], [nilT, [LI st, .sl true 1 (ins.map fun l => LI l)]], gh⟩ =
      if (printT st ins).2 = 0 then some (.ret, ⟨[(2, .ptr false 0 0), (3, I 0)], [[LI st, LsI ins]], gh⟩) else errQ gh := by
  have hp := rprint_eq (gh := gh) hs hi hst hn
  generalize (printT st ins).1 = T at *
  generalize (printT st ins).2 = e at *
  simp only [traceV, LsI, LI] at *
  generalize (ins.map fun l => PV.sl false 1 (l.map I)) = L at *
  generalize st.map I = sL at *
  by_cases h : e = 0
  · rw [if_pos h]; subst h
    refine D_ref_ParseTrace_k3_ok ?_
    simp [D_ref_ParseTrace_k3, hp]
  · rw [if_neg h]
    refine D_ref_ParseTrace_k3_ok ?_
    simp [D_ref_ParseTrace_k3, hp, h]
theorem finR_err : finish f_ref_ParseTrace gh (.ret, ⟨[(2, .ptr false 0 0), (3, I 1)], [nilT], gh⟩) = some (.tup [.agg [.sl false 1 [], .sl false 1 []], I 1], gh) := by
  simp [finish, results, f_ref_ParseTrace, resOfs, resOf, resOk, St.cellsAt, grab]
theorem finR_ok {st : List Int} {ins : List (List Int)} : finish f_ref_ParseTrace gh (.ret, ⟨[(2, .ptr false 0 0), (3, I 0)], [[LI st, LsI ins]], gh⟩) = some (.tup [traceV st ins, I 0], gh) := by
  have h1 := noGs_ints2 st
  have h2 := noGs_ls2 ins
  simp only [traceV, LsI, LI] at *
  generalize (ins.map fun l => PV.sl false 1 (l.map I)) = L at *
  generalize st.map I = sL at *
  simp [finish, results, f_ref_ParseTrace, resOfs, resOf, resOk, St.cellsAt, grab, h1, h2]
theorem rgoL_last : ∀ {xs : List (List UInt8)} {n : Nat}, xs.length = n + 1 → xs[n]? ≠ some [] → rgoL xs = none
  | [x], 0, _, h => by
    rw [rgoL_one, if_neg]
    intro hx; exact h (by simp [hx])
  | x :: y :: t, n + 1, hl, h => by
    rw [rgoL_cons]
    cases rdR x inW with
    | none => rfl
    | some l =>
      simp only
      rw [rgoL_last (xs := y :: t) (n := n) (by simpa using hl) (by simpa using h)]
      rfl
theorem ParseTrace_eq {s : List UInt8} (hs : s.length ≤ 1500000) : callL pg 372 [.str (bA s)] gh = some (ansT (parseR s), gh) := by
  have hC := RCut_eq (gh := gh) (s := s) (c := 10) (by omega)
  rw [show ((10 : UInt8).toNat : Int) = 10 from rfl] at hC
  have hl := splitK_len 10 s
  have hsz := splitK_size 10 s
  unfold parseR
  generalize splitK 10 s = P at *
  obtain ⟨n, hn⟩ : ∃ n, P.length = n + 1 := ⟨P.length - 1, by omega⟩
  have hPl : (SL8 P).length = n + 1 := by rw [List.length_map, hn]
  have hwr : IntKind.i64.wrap ((((SL8 P).length : Nat) : Int) - 1) = (n : Int) := by rw [hPl, wrap_id (by omega) (by omega)]; omega
  by_cases h1 : n < 1
  · obtain rfl : n = 0 := by omega
    match P, hn with
    | [x], _ =>
      rw [rgoF_one]
      have hd : decide ((((0 : Nat) : Int)) < 1) = true := rfl
      generalize SL8 [x] = Q at *
      refine callL_fn (fn := f_ref_ParseTrace) rfl rfl (D_ref_ParseTrace_0_ok ?h1) finR_err
      case h1 =>
        simp only [D_ref_ParseTrace_0, hC, callR_t, isC_sl, stK_sl, degr_sl, lenS_sl, hwr, hd, br_true]
  have hd : decide (((n : Nat) : Int) < 1) = false := decide_eq_false (by omega)
  have hnl : n < P.length := by omega
  have hx : (SL8 P)[n]? = some (.str (bA P[n])) := by simp [hnl]
  have hix : decide (0 ≤ (n : Int) ∧ 1 = 1) = true := decide_eq_true ⟨by omega, rfl⟩
  have hq := strEq P[n] []
  rw [← emptyBA] at hq
  obtain ⟨x, y, t, rfl⟩ : ∃ x y t, P = x :: y :: t := by
    match P, hn with
    | [], h => simp at h
    | [x], h => simp at h; omega
    | x :: y :: t, _ => exact ⟨x, y, t, rfl⟩
  by_cases he : (x :: y :: t)[n] = []
  · rw [rgoF_cons]
    rw [decide_eq_true he] at hq
    have hlast : (x :: y :: t)[n]? = some [] := by rw [List.getElem?_eq_getElem hnl, he]
    have hst := rq_line (gh := gh) (lines := SL8 (x :: y :: t)) (n := n) (i := 0) (x := x) (a := .sl true 1 []) (acc := []) rfl (by omega) (by omega) (by have := hsz x (by simp); omega) (by simp)
    simp only [if_true, Int.natCast_zero, Nat.zero_add] at hst
    cases hr : rdR x startW with
    | none =>
      rw [hr] at hst
      have hl1 : runL pg f_ref_ParseTrace_l1 ⟨[(2, .ptr false 0 0), (4, .sl false 1 (SL8 (x :: y :: t))), (5, I n), (6, .ptr false 1 0), (7, I 0)], [nilT, nilT], gh⟩ = errQ gh := lp_ret hst
      generalize SL8 (x :: y :: t) = Q at *
      refine callL_fn (fn := f_ref_ParseTrace) rfl rfl (D_ref_ParseTrace_0_ok ?h2) finR_err
      case h2 =>
        simp only [D_ref_ParseTrace_0, hC, callR_t, isC_sl, stK_sl, degr_sl, lenS_sl, hwr, hd, br_false, idX_sl, hix, gd_true, Int.toNat_natCast, hx, ob_some]
        simp only [degr_ep, ldX_ep]
        simp [he, hl1]
    | some l =>
      rw [hr] at hst
      simp only at hst ⊢
      obtain ⟨k1, k2⟩ := rdR_ok hr
      have hxl := hsz x (by simp)
      have hlp := rq_loop (gh := gh) (a := LI l) hn hlast (by omega) (fun z hz => by have := hsz z hz; omega) (n - 1) 1 [] (by omega) (by omega) (by simp; omega)
      rw [show (x :: y :: t).drop 1 = y :: t from rfl] at hlp
      have hl1 : runL pg f_ref_ParseTrace_l1 ⟨[(2, .ptr false 0 0), (4, .sl false 1 (SL8 (x :: y :: t))), (5, I n), (6, .ptr false 1 0), (7, I 0)], [nilT, nilT], gh⟩ = _ := lp_next hst hlp
      simp only [List.nil_append] at hl1
      cases hg : rgoL (y :: t) with
      | none =>
        rw [hg] at hl1
        simp only at hl1
        generalize SL8 (x :: y :: t) = Q at *
        refine callL_fn (fn := f_ref_ParseTrace) rfl rfl (D_ref_ParseTrace_0_ok ?h3) finR_err
        case h3 =>
          simp only [D_ref_ParseTrace_0, hC, callR_t, isC_sl, stK_sl, degr_sl, lenS_sl, hwr, hd, br_false, idX_sl, hix, gd_true, Int.toNat_natCast, hx, ob_some]
          simp only [degr_ep, ldX_ep]
          simp [he, hl1]
      | some ls =>
        rw [hg] at hl1
        simp only at hl1
        obtain ⟨g1, g2⟩ := rgoL_ok (N := s.length) hg (fun z hz => hsz z (by simp at hz ⊢; exact .inr hz))
        have h4 := rq_k3 (gh := gh) (st := l) (ins := ls) k1 (fun z hz => by have := g1 z hz; exact ⟨this.1, by omega⟩) (by omega) (by simp at hn g2; omega)
        simp only [Option.map_some]
        generalize SL8 (x :: y :: t) = Q at *
        by_cases hp : (printT l ls).2 = 0
        · rw [if_pos hp] at h4 ⊢
          refine callL_fn (fn := f_ref_ParseTrace) rfl rfl (D_ref_ParseTrace_0_ok ?h5) finR_ok
          case h5 =>
            simp only [LsI, LI] at *
            generalize (ls.map fun l => PV.sl false 1 (l.map I)) = L at *
            generalize l.map I = lL at *
            simp only [D_ref_ParseTrace_0, hC, callR_t, isC_sl, stK_sl, degr_sl, lenS_sl, hwr, hd, br_false, idX_sl, hix, gd_true, Int.toNat_natCast, hx, ob_some]
            simp only [degr_ep, ldX_ep]
            simp [he, hl1, h4]
        · rw [if_neg hp] at h4 ⊢
          refine callL_fn (fn := f_ref_ParseTrace) rfl rfl (D_ref_ParseTrace_0_ok ?h6) finR_err
          case h6 =>
            simp only [LsI, LI] at *
            generalize (ls.map fun l => PV.sl false 1 (l.map I)) = L at *
            generalize l.map I = lL at *
            simp only [D_ref_ParseTrace_0, hC, callR_t, isC_sl, stK_sl, degr_sl, lenS_sl, hwr, hd, br_false, idX_sl, hix, gd_true, Int.toNat_natCast, hx, ob_some]
            simp only [degr_ep, ldX_ep]
            simp [he, hl1, h4]
  · have hgl : rgoL (y :: t) = none := rgoL_last (n := n - 1) (by simp at hn ⊢; omega) (by
      intro h
      apply he
      have : (x :: y :: t)[n]? = some [] := by
        obtain ⟨m, rfl⟩ : ∃ m, n = m + 1 := ⟨n - 1, by omega⟩
        simpa using h
      rw [List.getElem?_eq_getElem hnl] at this
      exact Option.some.inj this)
    have e : rgoF (x :: y :: t) = none := by
      rw [rgoF_cons, hgl]
      cases rdR x startW <;> rfl
    rw [e]
    generalize SL8 (x :: y :: t) = Q at *
    have hq2 : ((x :: y :: t)[n]).isEmpty = false := by
      generalize (x :: y :: t)[n] = w at *
      cases w
      · exact absurd rfl he
      · rfl
    generalize (x :: y :: t)[n] = w at *
    refine callL_fn (fn := f_ref_ParseTrace) rfl rfl (D_ref_ParseTrace_0_ok ?h7) finR_err
    case h7 =>
      simp only [D_ref_ParseTrace_0, hC, callR_t, isC_sl, stK_sl, degr_sl, lenS_sl, hwr, hd, br_false, idX_sl, hix, gd_true, Int.toNat_natCast, hx, ob_some]
      simp only [degr_ep, ldX_ep]
      simp [hq2]
end
end Go.Lw
end

/-! Traces as texts: both ways of reading are one; what is printed is read. -/
section
namespace Go.Lw
open Go
theorem byteAll_cons (n : Int) (l : List Int) : byteAll (n :: l) = true ↔ (0 ≤ n ∧ n ≤ 255) ∧ byteAll l = true := by
  simp [byteAll]
theorem rdL_und : ∀ {xs : List (List UInt8)} {l : List Int}, byteAll l = true → (rdL xs = some l ↔ xs.map undK = l)
  | [], l, _ => by
    rw [rdL, List.map_nil, Option.some.injEq]
  | x :: xs, l, hb => by
    constructor
    · intro h
      rw [rdL] at h
      cases hr : rdN x with
      | none => rw [hr] at h; cases h
      | some n =>
        rw [hr] at h
        simp only [Option.map_eq_some_iff] at h
        obtain ⟨m, hm, rfl⟩ := h
        rw [byteAll_cons] at hb
        have hx := rdN_itoa hr
        rw [List.map_cons, hx, undK_byte hb.1, (rdL_und hb.2).1 hm]
    · intro h
      subst h
      rw [List.map_cons, byteAll_cons] at hb
      have hx := undK_itoa hb.1.1 hb.1.2
      have hr : rdN x = some (undK x) := by
        have := rdN_byte hb.1
        rwa [← hx] at this
      rw [rdL, hr, List.map_cons]
      simp only
      rw [(rdL_und hb.2).2 rfl]
      rfl
theorem read_iff {x w : List UInt8} {l : List Int} (hb : byteAll l = true) : readK x w = some l ↔ rdR x w = some l := by
  unfold readK rdR
  cases splitK 32 x with
  | nil => exact Iff.rfl
  | cons a r =>
    simp only
    by_cases h : a = w
    · rw [if_pos h, if_pos h, rdL_und hb, Option.some.injEq]
    · rw [if_neg h, if_neg h]
theorem go_iff : ∀ {xs : List (List UInt8)} {ls : List (List Int)}, (ls.all fun l => byteAll l) = true → (goL xs = some ls ↔ rgoL xs = some ls)
  | [], ls, _ => by rw [goL, rgoL]
  | [x], ls, _ => by rw [goL_one, rgoL_one]
  | x :: y :: t, ls, hb => by
    rw [goL_cons, rgoL_cons]
    constructor
    · intro h
      cases hr : readK x inW with
      | none => rw [hr] at h; cases h
      | some l =>
        rw [hr] at h
        simp only [Option.map_eq_some_iff] at h
        obtain ⟨m, hm, rfl⟩ := h
        rw [List.all_cons, Bool.and_eq_true] at hb
        rw [(read_iff hb.1).1 hr]
        simp only
        rw [(go_iff hb.2).1 hm]; rfl
    · intro h
      cases hr : rdR x inW with
      | none => rw [hr] at h; cases h
      | some l =>
        rw [hr] at h
        simp only [Option.map_eq_some_iff] at h
        obtain ⟨m, hm, rfl⟩ := h
        rw [List.all_cons, Bool.and_eq_true] at hb
        rw [(read_iff hb.1).2 hr]
        simp only
        rw [(go_iff hb.2).2 hm]; rfl
theorem goF_iff {xs : List (List UInt8)} {t : List Int × List (List Int)} (h1 : byteAll t.1 = true) (h2 : (t.2.all fun l => byteAll l) = true) : goF xs = some t ↔ rgoF xs = some t := by
  obtain ⟨st, ins⟩ := t
  match xs with
  | [] => exact Iff.rfl
  | [x] => exact Iff.rfl
  | x :: y :: t =>
    rw [goF_cons, rgoF_cons]
    constructor
    · intro h
      cases hr : readK x startW with
      | none => rw [hr] at h; cases h
      | some l =>
        rw [hr] at h
        simp only [Option.map_eq_some_iff, Prod.mk.injEq] at h
        obtain ⟨m, hm, rfl, rfl⟩ := h
        rw [(read_iff h1).1 hr]
        simp only
        rw [(go_iff h2).1 hm]; rfl
    · intro h
      cases hr : rdR x startW with
      | none => rw [hr] at h; cases h
      | some l =>
        rw [hr] at h
        simp only [Option.map_eq_some_iff, Prod.mk.injEq] at h
        obtain ⟨m, hm, rfl, rfl⟩ := h
        rw [(read_iff h1).2 hr]
        simp only
        rw [(go_iff h2).2 hm]; rfl
theorem print_ok {st : List Int} {ins : List (List Int)} (h : (printT st ins).2 = 0) : byteAll st = true ∧ (ins.all fun l => byteAll l) = true ∧ (printT st ins).1 = textT st ins := by
  unfold printT at *
  split at h
  · cases h
  · rename_i hm
    split at h
    · rename_i hb
      rw [Bool.and_eq_true] at hb
      rw [if_neg hm, if_pos (by rw [hb.1, hb.2]; rfl)]
      exact ⟨hb.1, hb.2, rfl⟩
    · cases h
theorem parse_one (s : List UInt8) : parseP s = parseR s := by
  have key : ∀ t, parseP s = some t ↔ parseR s = some t := by
    intro t
    unfold parseP parseR
    constructor
    · intro h
      cases hg : goF (splitK 10 s) with
      | none => rw [hg] at h; cases h
      | some u =>
        rw [hg] at h
        simp only at h
        split at h
        · rename_i hp
          cases h
          obtain ⟨p1, p2, -⟩ := print_ok hp
          rw [(goF_iff p1 p2).1 hg]
          simp only
          rw [if_pos hp]
        · cases h
    · intro h
      cases hg : rgoF (splitK 10 s) with
      | none => rw [hg] at h; cases h
      | some u =>
        rw [hg] at h
        simp only at h
        split at h
        · rename_i hp
          cases h
          obtain ⟨p1, p2, -⟩ := print_ok hp
          rw [(goF_iff p1 p2).2 hg]
          simp only
          rw [if_pos hp]
        · cases h
  cases h : parseP s with
  | none =>
    cases h2 : parseR s with
    | none => rfl
    | some t => rw [(key t).2 h2] at h; cases h
  | some t => exact ((key t).1 h).symm
theorem digit_byte : ∀ n : Fin 256, (itoaK (n.val : Int)).all (fun b => b != 10 && b != 32) = true := by decide +kernel
theorem digit_no {n : Int} (h : 0 ≤ n ∧ n ≤ 255) : (10 : UInt8) ∉ itoaK n ∧ (32 : UInt8) ∉ itoaK n := by
  have h2 := digit_byte ⟨n.toNat, by omega⟩
  rw [show ((n.toNat : Nat) : Int) = n by omega, List.all_eq_true] at h2
  refine ⟨fun hm => ?_, fun hm => ?_⟩
  · have := h2 _ hm; simp at this
  · have := h2 _ hm; simp at this
theorem line_no : ∀ {l : List Int}, byteAll l = true → (10 : UInt8) ∉ l.flatMap fun n => 32 :: itoaK n
  | [], _ => by simp
  | n :: l, h => by
    rw [byteAll_cons] at h
    rw [List.flatMap_cons]
    intro hm
    rcases List.mem_append.1 hm with hm | hm
    · rcases List.mem_cons.1 hm with hm | hm
      · exact absurd hm (by decide)
      · exact (digit_no h.1).1 hm
    · exact line_no h.2 hm
theorem line_split : ∀ {l : List Int} {w : List UInt8}, byteAll l = true → (32 : UInt8) ∉ w → splitK 32 (w ++ l.flatMap fun n => 32 :: itoaK n) = w :: l.map itoaK
  | [], w, _, hw => by
    rw [List.flatMap_nil, List.append_nil, splitK_none hw]; rfl
  | n :: l, w, h, hw => by
    rw [byteAll_cons] at h
    rw [List.flatMap_cons, List.cons_append, splitK_some hw, line_split h.2 (digit_no h.1).2]; rfl
theorem rdL_itoa : ∀ {l : List Int}, byteAll l = true → rdL (l.map itoaK) = some l
  | [], _ => rfl
  | n :: l, h => by
    rw [byteAll_cons] at h
    rw [List.map_cons, rdL, rdN_byte h.1]
    simp only
    rw [rdL_itoa h.2]; rfl
theorem read_line {l : List Int} {w : List UInt8} (h : byteAll l = true) (hw : (32 : UInt8) ∉ w) : readK (w ++ l.flatMap fun n => 32 :: itoaK n) w = some l := by
  unfold readK
  rw [line_split h hw]
  simp [rdL_itoa h]
theorem go_text : ∀ {ins : List (List Int)}, (ins.all fun l => byteAll l) = true → goL (splitK 10 (ins.flatMap (lineB inW))) = some ins
  | [], _ => rfl
  | l :: ls, h => by
    rw [List.all_cons, Bool.and_eq_true] at h
    have hno : (10 : UInt8) ∉ inW ++ l.flatMap fun n => 32 :: itoaK n := by
      intro hm
      rcases List.mem_append.1 hm with hm | hm
      · exact absurd hm (by decide)
      · exact line_no h.1 hm
    have e : (l :: ls).flatMap (lineB inW) = (inW ++ l.flatMap fun n => 32 :: itoaK n) ++ 10 :: ls.flatMap (lineB inW) := by
      rw [List.flatMap_cons, lineB]; simp
    have ih := go_text h.2
    rw [e, splitK_some hno]
    obtain ⟨y, t, hyt⟩ := splitK_ne 10 (ls.flatMap (lineB inW))
    rw [hyt] at ih ⊢
    rw [goL_cons, read_line h.1 (by decide)]
    simp only
    rw [ih]; rfl
theorem parse_text {st : List Int} {ins : List (List Int)} (h : (printT st ins).2 = 0) : parseP (textT st ins) = some (st, ins) := by
  obtain ⟨h1, h2, -⟩ := print_ok h
  have hno : (10 : UInt8) ∉ startW ++ st.flatMap fun n => 32 :: itoaK n := by
    intro hm
    rcases List.mem_append.1 hm with hm | hm
    · exact absurd hm (by decide)
    · exact line_no h1 hm
  have e : textT st ins = (startW ++ st.flatMap fun n => 32 :: itoaK n) ++ 10 :: ins.flatMap (lineB inW) := by
    rw [textT, lineB]; simp
  have hg := go_text h2
  unfold parseP
  rw [e, splitK_some hno]
  obtain ⟨y, t, hyt⟩ := splitK_ne 10 (ins.flatMap (lineB inW))
  rw [hyt] at hg ⊢
  rw [goF_cons, read_line h1 (by decide)]
  simp only
  rw [hg]
  simp only [Option.map_some]
  rw [if_pos h]
end Go.Lw
end

/-! slices.Clone: what it answers, shown of its code. -/
section
namespace Go.Lw
open Go Go.RowKit
section
variable {fi : FI} {M M' : Mem} {w w' : World} {P : Program} {s s' : St} {a : Act} {cf : CallF}
theorem wpList_cons {ops : Array Oper} {Q : Exit → Act → World → Prop} {o : Oper} {rest : List Oper} (h : if Region.wanted o (yielded ops a.tmps) then o.wp P a w (wpList P ops Q rest) Q else wpList P ops Q rest (a.put o.dst undef) w) : wpList P ops Q (o :: rest) a w := by
  unfold wpList
  split
  · rename_i hw; rw [if_pos hw] at h; exact .inl h
  · rename_i hw; rw [if_neg hw] at h; exact h
end
end Go.Lw
end
