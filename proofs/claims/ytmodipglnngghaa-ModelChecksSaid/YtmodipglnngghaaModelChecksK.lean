/-
  The texts that the proof stands on, part 11.
-/
import Derived.Test.YtmodipglnngghaaModelChecksJ
import Derived.Laws.MakeOwn
set_option linter.unusedVariables false
set_option linter.unusedSimpArgs false
set_option linter.unnecessarySimpa false

/-! Each operation of the machine (calls apart) does what its Go operation does: parts, maps, lengths, appends. -/
section
namespace Go.Lw
open Go Go.RowKit

section
variable {fi : Nat → Option Nat} {M M' : Mem} {w w' : World} {P : Program} {s s' : St} {a : Act} {cf : CallF}

theorem sim_index {o : Oper} {d z m : Nat} {agg : Bool} {x i : IX} (A : Asks P fi M w s a o (.index d z m agg x i)) (h : opStep cf s (.index d z m agg x i) = some s') : Sim P fi o M w s' a := by
  obtain ⟨dst, op, ty, pos, aft, gd⟩ := o
  obtain ⟨hI, hm, hd, hlt⟩ := A
  cases op <;> simp [mOp] at hm
  rename_i t y j
  obtain ⟨⟨hx, hi⟩, hm⟩ := hm
  split at hm
  · rename_i m' e ht
    simp at hm
    obtain ⟨⟨rfl, hz⟩, ha⟩ := hm
    simp only [opStep] at h
    split at h
    · rename_i k n hn
      have hiv := (evalX_sim hI hi hn).int
      split at h
      · rename_i cs hp
        split at h
        · rename_i hc
          simp only [Option.map_eq_some_iff] at h
          obtain ⟨p, hg, rfl⟩ := h
          obtain ⟨vs, hv, hl, hvv⟩ := (evalX_sim hI hx hp).agg
          obtain ⟨r, h1, h2⟩ := grab_sim (P := P) hg hl hvv ha (fun _ => hz)
          refine Sim.pure hI hd (hlt d rfl) ?_ h2.repE.repAt
          simp [execOp, hiv, hv, Instr.index, run_underlying ht, asIntOf, hc.1, hc.2, run_sizeOf' hz, h1]
        · cases h
      · cases h
    · cases h
  · cases hm

theorem sim_indexS {o : Oper} {d : Nat} {x i : IX} (A : Asks P fi M w s a o (.indexS d x i)) (h : opStep cf s (.indexS d x i) = some s') : Sim P fi o M w s' a := by
  obtain ⟨dst, op, ty, pos, aft, gd⟩ := o
  obtain ⟨hI, hm, hd, hlt⟩ := A
  cases op <;> simp [mOp] at hm
  rename_i t y j
  obtain ⟨⟨hx, hi⟩, hm⟩ := hm
  have ht : P.underlying t = some .string := by
    split at hm
    · assumption
    · cases hm
  simp only [opStep] at h
  split at h
  · rename_i k n hn
    have hiv := (evalX_sim hI hi hn).int
    split at h
    · rename_i b hp
      have hv := (evalX_sim hI hx hp).str
      split at h
      · rename_i h0
        simp only [Option.map_eq_some_iff] at h
        obtain ⟨u, hu, rfl⟩ := h
        exact Sim.pure hI hd (hlt d rfl) (v := .int .u8 u.toNat) (by simp [execOp, hiv, hv, index_str (P := P) ht h0 hu]) (RepP.repE (.int _ _)).repAt
      · cases h
    · cases h
  · cases h

theorem sim_lookup {o : Oper} {d kn : Nat} {m k : IX} {ok : Bool} {zero : PV} (A : Asks P fi M w s a o (.lookup d kn m k ok zero)) (h : opStep cf s (.lookup d kn m k ok zero) = some s') : Sim P fi o M w s' a := by
  obtain ⟨dst, op, ty, pos, aft, gd⟩ := o
  obtain ⟨hI, hm, hd, hlt⟩ := A
  cases op <;> simp [mOp] at hm
  rename_i t y j ok'
  obtain ⟨⟨⟨hx, hk⟩, rfl⟩, hm⟩ := hm
  split at hm
  · rename_i kt et ht
    simp only [Bool.and_eq_true] at hm
    obtain ⟨hkt, hz⟩ := hm
    simp only [opStep] at h
    split at h
    · rename_i b kv hp hkv
      split at h
      · rename_i es hes
        split at h
        · cases h
        · rename_i hki
          have hki' : isKey kn kv = true := by simpa using hki
          unfold zeroIs at hz
          cases hit : P.info? et with
          | none => simp [hit] at hz
          | some it =>
            cases hzv : it.zero with
            | none => simp [hit, hzv] at hz
            | some zv =>
              simp [hit, hzv] at hz
              have L := fun (r : Option PV) (hr : mfind kn es kv = some r) => lookup_sim (P := P) hI ht hkt hit hzv hz (evalX_sim hI hx hp) hes (evalX_sim hI hk hkv) hki' (ok := ok) hr
              split at h
              · rename_i v hf
                cases h
                obtain ⟨r, h1, h2⟩ := L _ hf
                exact Sim.pure hI hd (hlt d rfl) (by simp [execOp, h1]) h2.repE.repAt
              · rename_i hf
                cases h
                obtain ⟨r, h1, h2⟩ := L _ hf
                exact Sim.pure hI hd (hlt d rfl) (by simp [execOp, h1]) h2.repE.repAt
              · cases h
      · cases h
    · cases h
  · cases hm

theorem sim_mupd {o : Oper} {kn : Nat} {m k x : IX} (A : Asks P fi M w s a o (.mupd kn m k x)) (h : opStep cf s (.mupd kn m k x) = some s') : Sim P fi o M w s' a := by
  obtain ⟨dst, op, ty, pos, aft, gd⟩ := o
  obtain ⟨hI, hm, hd, hlt⟩ := A
  have hdn : dst = none := hd
  subst hdn
  simp only [opStep] at h
  split at h
  · rename_i b kv v hp hkv hv
    split at h
    · rename_i es hes
      split at h
      · rename_i hc
        simp only [Option.map_eq_some_iff] at h
        obtain ⟨es', hs, rfl⟩ := h
        cases op <;> simp [mOp] at hm <;> rename_i t y j z <;> obtain ⟨⟨⟨hx, hk⟩, hy⟩, hm⟩ := hm <;> split at hm <;> try (cases hm; done)
        all_goals
          rename_i kt et ht
          obtain ⟨w2, h1, h2, h3⟩ := mupd_sim (P := P) hI ht hm (evalX_sim hI hx hp) hes (evalX_sim hI hk hkv) hc.2.2 (evalX_sim hI hy hv) hc.1 hc.2.1 hs
          exact ⟨.skip, undef, M, w2, by simp [execOp, h1], .inr ⟨rfl, rfl⟩, h2, h3⟩
      · cases h
    · cases h
  · cases h

theorem invoke_builtin {b : Builtin} {ats : Array TypeId} {ty : TypeId} {cs : Array Bool} {args : Array Value} : invoke (.builtin b ats ty cs) args = builtin b ats ty cs args := rfl

theorem sim_len {o : Oper} {d kd : Nat} {x : IX} (A : Asks P fi M w s a o (.len d kd x)) (h : opStep cf s (.len d kd x) = some s') : Sim P fi o M w s' a := by
  obtain ⟨dst, op, ty, pos, aft, gd⟩ := o
  obtain ⟨hI, hm, hd, hlt⟩ := A
  cases op with
  | call c =>
    obtain ⟨callee, args, argTypes⟩ := c
    cases callee with
    | builtin b =>
      cases b <;> simp [mOp] at hm
      split at hm
      · rename_i y t ha ht
        simp only [Bool.and_eq_true] at hm
        obtain ⟨hx, hm⟩ := hm
        have ha' : args = #[y] := by apply Array.ext'; simpa using ha
        subst ha'
        have fin : ∀ (n : Nat), (Builtin.len_ argTypes ty #[a.eval y]).run P w = .ok (.int .i64 n) w → Sim P fi ⟨dst, .call ⟨.builtin .len, #[y], argTypes⟩, ty, pos, aft, gd⟩ M w (s.put d (.int .i64 n)) a := fun n hn => by
          refine Sim.pure hI hd (hlt d rfl) (v := .int .i64 n) ?_ (RepP.repE (.int _ _)).repAt
          simp [execOp, resolve, invoke_builtin, builtin, hn]
        obtain rfl | rfl | rfl | h4 : kd = 0 ∨ kd = 1 ∨ kd = 2 ∨ 3 ≤ kd := by omega
        · split at hm <;> try (first | (simp at hm; done) | omega)
          rename_i e _ hu
          simp only [opStep] at h
          split at h <;> try (first | (simp at h; done) | omega)
          · rename_i ow z xs _ hp
            cases h
            obtain ⟨A, c, hv, hcl⟩ := (evalX_sim hI hx hp).slC
            exact fin _ (by rw [hv]; exact len_sl (P := P) ht hu w)
          · rename_i g b off n z _ hp
            cases h
            have hx' := evalX_sim hI hx hp
            have hv : ∃ A c, a.eval y = .slice A n c := by
              cases g with
              | true =>
                generalize hu : a.eval y = u at hx'
                cases (show RepP fi M w (.bs true b off n z) u from hx') with
                | bs _ _ _ _ A c blk hb hA hc => exact ⟨A, c, rfl⟩
              | false => obtain ⟨blk, A, c, _, hv, _⟩ := hx'; exact ⟨A, c, hv⟩
            obtain ⟨A, c, hv⟩ := hv
            exact fin _ (by rw [hv]; exact len_sl (P := P) ht hu w)
        · split at hm <;> try (first | (simp at hm; done) | omega)
          rename_i _ hu
          simp only [opStep] at h
          split at h <;> try (first | (simp at h; done) | omega)
          rename_i b _ hp
          cases h
          have hv := (evalX_sim hI hx hp).str
          exact fin _ (by rw [hv]; exact len_str (P := P) ht hu w)
        · split at hm <;> try (first | (simp at hm; done) | omega)
          rename_i kt et _ hu
          simp only [opStep] at h
          split at h <;> try (first | (simp at h; done) | omega)
          rename_i b _ hp
          split at h
          · rename_i es hes
            cases h
            exact fin _ (lenMap_sim (P := P) hI ht hu (evalX_sim hI hx hp) hes)
          · cases h
        · split at hm <;> first | (simp at hm; done) | omega
      · cases hm
    | _ => simp [mOp] at hm
  | _ => simp [mOp] at hm

theorem sim_append {o : Oper} {d z bytes : Nat} {sx x : IX} (A : Asks P fi M w s a o (.append d z bytes sx x)) (h : opStep cf s (.append d z bytes sx x) = some s') : Sim P fi o M w s' a := by
  obtain ⟨dst, op, ty, pos, aft, gd⟩ := o
  obtain ⟨hI, hm, hd, hlt⟩ := A
  cases op with
  | call c =>
    obtain ⟨callee, args, argTypes⟩ := c
    cases callee with
    | builtin b =>
      cases b <;> simp [mOp] at hm
      split at hm
      · rename_i y y' t t' ha ht
        simp only [Bool.and_eq_true, beq_iff_eq, decide_eq_true_eq] at hm
        obtain ⟨⟨⟨⟨⟨hs, hx⟩, rfl⟩, hz0⟩, hb0⟩, hm⟩ := hm
        have ha' : args = #[y, y'] := by apply Array.ext'; simpa using ha
        have ht' : argTypes = #[t, t] := by apply Array.ext'; simpa using ht
        subst ha'; subst ht'
        split at hm <;> try (cases hm; done)
        rename_i e hu
        split at hm <;> try (cases hm; done)
        rename_i i hi
        simp only [Bool.and_eq_true, beq_iff_eq] at hm
        obtain ⟨⟨hsz, hby⟩, hm⟩ := hm
        split at hm <;> try (cases hm; done)
        rename_i zv hzv
        simp at hm
        simp only [opStep, Option.bind_eq_some_iff] at h
        obtain ⟨xv, hxv, h⟩ := h
        split at h
        · rename_i o2 z2 ys
          simp only [Option.bind_eq_some_iff] at h
          obtain ⟨⟨v, e'⟩, hv, h⟩ := h
          cases v with
          | sl o1 z1 xs =>
            simp only at h
            split at h
            · rename_i hc
              obtain ⟨rfl, rfl, rfl, hbd⟩ := hc
              cases h
              obtain ⟨M1, hI1, k1, hr, _, hgb, himm⟩ := take_sim hI hs hv
              have hxr : RepP fi M w (.sl false z2 ys) (a.eval y') := by
                have := evalX_sim hI hx hxv
                cases o2 with
                | false => exact this
                | true =>
                  cases x with
                  | t n => simp only [evalX, Option.map_eq_some_iff] at hxv; obtain ⟨q, _, hq⟩ := hxv; cases q <;> simp [degr] at hq
                  | c q => simp only [evalX, Option.some.injEq] at hxv; cases q <;> simp [degr] at hxv
                  | f id => simp [evalX] at hxv
              have hx1 : RepP fi M1 w (.sl false z2 ys) (a.eval y') := hxr.mono ⟨fun i k hk => by rw [hgb]; exact hk, fun b k hk => by rw [himm]; exact hk, fun _ _ _ => rfl⟩
              obtain ⟨r, M2, w2, h1, h2, k2⟩ := append_sim (P := P) (ty := ty) hI1 hu hi hzv hsz hby hm hz0 hb0 hr hx1 hbd (hlt d rfl)
              refine ⟨.value r, r, M2, w2, ?_, .inl rfl, by rw [show dst = some d from hd]; exact h2, k1.trans k2⟩
              simp [execOp, resolve, invoke_builtin, builtin, h1]
            · cases h
          | _ => cases h
        · cases h
      · cases hm
    | _ => simp [mOp] at hm
  | _ => simp [mOp] at hm

theorem sim_extract {o : Oper} {d i : Nat} {x : IX} (A : Asks P fi M w s a o (.extract d x i)) (h : opStep cf s (.extract d x i) = some s') : Sim P fi o M w s' a := by
  obtain ⟨dst, op, ty, pos, aft, gd⟩ := o
  obtain ⟨hI, hm, hd, hlt⟩ := A
  cases op <;> simp [mOp] at hm
  rename_i y j
  obtain ⟨hx, rfl⟩ := hm
  simp only [opStep] at h
  split at h
  · rename_i vs hp
    simp only [Option.map_eq_some_iff] at h
    obtain ⟨p, hg, rfl⟩ := h
    obtain ⟨us, hv, hl, hvv⟩ := (evalX_sim hI hx hp).tup
    have hi : i < us.length := by rw [hl]; exact (List.getElem?_eq_some_iff.1 hg).1
    have hr := hvv i p _ hg (List.getElem?_eq_getElem hi)
    refine Sim.pure hI hd (hlt d rfl) (v := us[i]) ?_ hr.repE.repAt
    simp [execOp, hv, Instr.extract, List.getElem?_eq_getElem hi]
  · cases h

theorem sim_maxi {o : Oper} {d : Nat} {xs : List IX} (A : Asks P fi M w s a o (.maxi d xs)) (h : opStep cf s (.maxi d xs) = some s') : Sim P fi o M w s' a := by
  obtain ⟨dst, op, ty, pos, aft, gd⟩ := o
  obtain ⟨hI, hm, hd, hlt⟩ := A
  cases op with
  | call c =>
    obtain ⟨callee, args, argTypes⟩ := c
    cases callee with
    | builtin b =>
      cases b <;> simp [mOp] at hm
      simp only [opStep, Option.bind_eq_some_iff, Option.map_eq_some_iff] at h
      obtain ⟨vs, hvs, r, hr, rfl⟩ := h
      obtain ⟨h1, h2⟩ := evalXs_sim hI hm hvs
      unfold maxL at hr
      split at hr
      · rename_i k n
        cases hr
        obtain ⟨y, ha⟩ : ∃ y, args = #[y] := by
          obtain ⟨l⟩ := args
          match l, h1 with
          | [y], _ => exact ⟨y, rfl⟩
        subst ha
        have hv := (h2 0 _ y rfl rfl).int
        refine Sim.pure hI hd (hlt d rfl) (v := .int k n) ?_ (RepP.repE (.int _ _)).repAt
        simp [execOp, resolve, invoke_builtin, builtin, hv, Builtin.max_]
      · rename_i k n k' n'
        split at hr
        · rename_i hk
          subst hk
          cases hr
          obtain ⟨y, z, ha⟩ : ∃ y z, args = #[y, z] := by
            obtain ⟨l⟩ := args
            match l, h1 with
            | [y, z], _ => exact ⟨y, z, rfl⟩
          subst ha
          have hv := (h2 0 _ y rfl rfl).int
          have hv2 := (h2 1 _ z rfl rfl).int
          refine Sim.pure hI hd (hlt d rfl) (v := .int k (if n' > n then n' else n)) ?_ (RepP.repE (.int _ _)).repAt
          simp [execOp, resolve, invoke_builtin, builtin, hv, hv2, Builtin.max_, Builtin.max2]
        · cases hr
      · cases hr
    | _ => simp [mOp] at hm
  | _ => simp [mOp] at hm

end
end Go.Lw
end

/-! Each operation of the machine (calls apart) does what its Go operation does: structs, arrays, lists that are made. -/
section
namespace Go.Lw
open Go Go.RowKit

section
variable {fi : Nat → Option Nat} {M M' : Mem} {w w' : World} {P : Program} {s s' : St} {a : Act} {cf : CallF}

theorem flat_get {z : Nat} (x : PV) (hx : x.cells.length = z) : ∀ (n j : Nat), ((List.replicate n x).flatMap PV.cells)[j]? = if j < n * z then x.cells[j % z]? else none
  | 0, j => by simp
  | n + 1, j => by
    rw [List.replicate_succ, List.flatMap_cons, Nat.add_mul, Nat.one_mul]
    by_cases h : j < z
    · rw [List.getElem?_append_left (by omega), if_pos (by omega), Nat.mod_eq_of_lt h]
    · rw [List.getElem?_append_right (by omega), flat_get x hx n, hx]
      by_cases h2 : j < n * z + z
      · rw [if_pos (by omega), if_pos h2, ← Nat.mod_eq_sub_mod (by omega)]
      · rw [if_neg (by omega), if_neg h2]

theorem flat_len {z : Nat} (x : PV) (hx : x.cells.length = z) (n : Nat) : ((List.replicate n x).flatMap PV.cells).length = n * z := by
  simp [List.length_flatMap, hx]

theorem made_get (zs : Array Value) (n j : Nat) (h : j < n) : (madeCells zs n).toList[j]? = some (zs[j % zs.size]!) := by
  simp [madeCells, h]

/-- The cells of a list that is made. -/
theorem made_rep {zero : PV} {zv : Value} {z : Nat} (hc : cOk zero zv = true) (hl : zero.cells.length = z) (ha : argOk zero = true) (hs : zv.cells.size = z) (n : Nat) (mk : Nat → Loc) :
    RepAt fi M w mk (.agg ((List.replicate n zero).flatMap PV.cells)) (.agg (madeCells zv.cells (n * z))) := by
  refine ⟨(madeCells zv.cells (n * z)).toList, by simp, by rw [flat_len zero hl]; simp [size_madeCells], fun j c u hcj huj => ?_⟩
  rw [flat_get zero hl] at hcj
  split at hcj
  · rename_i hj
    rw [made_get _ _ _ hj, hs] at huj
    obtain ⟨vs, e1, e2, e3, _⟩ := (cOk_at (fi := fi) (M := M) (w := w) hc (fun _ => mk j)).cells ha
    have hjz : j % z < z := Nat.mod_lt _ (by rcases z with _ | z; simp at hj; omega)
    refine e3 (j % z) c u hcj ?_
    have : zv.cells.toList[j % z]? = some u := by
      rw [← huj]
      simp only [Array.getElem?_toList]
      rw [getElem!_pos zv.cells (j % z) (by omega)]
      exact Array.getElem?_eq_getElem (by omega)
    rw [e1] at this; exact this
  · cases hcj

theorem sim_mksl {o : Oper} {d z bytes : Nat} {g : Bool} {zero : PV} {l : IX} (A : Asks P fi M w s a o (.mksl d g z bytes zero l)) (h : opStep cf s (.mksl d g z bytes zero l) = some s') : Sim P fi o M w s' a := by
  obtain ⟨dst, op, ty, pos, aft, gd⟩ := o
  obtain ⟨hI, hm, hd, hlt⟩ := A
  cases op <;> simp [mOp] at hm
  rename_i t y y'
  obtain ⟨⟨⟨hx, hx'⟩, hb0⟩, hm⟩ := hm
  split at hm <;> try (cases hm; done)
  rename_i e hu
  split at hm <;> try (cases hm; done)
  rename_i i hi
  simp only [Bool.and_eq_true, beq_iff_eq] at hm
  obtain ⟨⟨hsz, hby⟩, hm⟩ := hm
  split at hm <;> try (cases hm; done)
  rename_i zv hzv
  simp only [Bool.and_eq_true, beq_iff_eq] at hm
  obtain ⟨hzc, hzs⟩ := hm
  simp only [opStep] at h
  split at h
  · rename_i k n hn
    split at h
    · rename_i hc
      obtain ⟨h0, hbd, hzl, hok⟩ := hc
      cases h
      have v1 := (evalX_sim hI hx hn).int
      have v2 := (evalX_sim hI hx' hn).int
      have hok' : argOk (.agg ((List.replicate n.toNat zero).flatMap PV.cells)) = true := by
        simp only [argOk, PV.cells, List.all_eq_true, List.mem_flatMap, List.mem_replicate] at hok ⊢
        rintro c ⟨x, ⟨_, rfl⟩, hc⟩
        exact hok c hc
      obtain ⟨M2, hI2, k2, hr2⟩ := hI.newBox g (made_rep (fi := fi) (M := M) (w := w) hzc hzl hok hzs n.toNat Loc.lim) hok' e
      have hb1 : n * 1 ≤ n * (bytes : Int) := Int.mul_le_mul_of_nonneg_left (by omega) h0
      have hmx : (maxBytes : Int) = 140737488355328 := rfl
      have hrun := run_make (P := P) w t e i zv hu hi hzv k k n n h0 (Int.le_refl _) (by rw [hby, Int.mul_comm]; omega) (by omega)
      rw [hsz] at hrun
      refine ⟨_, .slice (some ⟨w.heap.size, 0, none⟩) n.toNat n.toNat, M2, _, ?_, .inl rfl, ?_, k2⟩
      · simp only [execOp, v1, v2, Sem.run_bind, hrun]; rfl
      · rw [show dst = some d from hd]
        refine hI2.put (hlt d rfl) (RepE.repAt ?_)
        obtain ⟨blk, hv, _⟩ := ptr_of hr2
        cases g with
        | true =>
          cases (show RepP fi M2 _ (.ptr true _ 0) _ from hr2) with
          | ptr _ _ _ hb => exact RepP.repE (.bs _ _ _ _ _ _ _ hb (.inr rfl) (Nat.le_refl _))
        | false => obtain ⟨blk, hb, hv⟩ := hr2; cases hv; exact ⟨_, _, _, hb, rfl, .inr rfl, Nat.le_refl _⟩
    · cases h
  · cases h

/-! ### structs and arrays written out -/

theorem mapM_run {α β : Type} (F : α → Sem β) (G : α → Option β) (hFG : ∀ x y, G x = some y → (F x).run P w = .ok y w) : ∀ {l : List α} {L : List β}, l.mapM G = some L → (l.mapM F).run P w = .ok L w
  | [], L, h => by simp at h; subst h; simp
  | x :: l, L, h => by
    simp only [List.mapM_cons, Option.bind_eq_bind, Option.bind_eq_some_iff] at h
    obtain ⟨y, hy, L', hL, h⟩ := h
    simp at h; subst h
    simp [List.mapM_cons, hFG x y hy, mapM_run F G hFG hL]

theorem mapM_runA {α β : Type} (F : α → Sem β) (G : α → Option β) (hFG : ∀ x y, G x = some y → (F x).run P w = .ok y w) {l : Array α} {L : List β} (h : l.toList.mapM G = some L) : (l.mapM F).run P w = .ok L.toArray w := by
  rw [Array.mapM_eq_mapM_toList, map_eq_pure_bind, Sem.run_bind, mapM_run F G hFG h]; rfl

theorem run_build {t : TypeId} {zv : Value} {i : TypeInfo} {parts : Array (Nat × Value)} {us : List Value} (hi : P.info? t = some i) (hz : i.zero = some zv)
    (h : ∀ place : Nat → Option (Nat × Nat), (∀ j q, placeOf P t j = some q → place j = some q) → Instr.fill place zv.cells parts.toList = some us.toArray)
    (hp : ∃ j q, placeOf P t j = some q) : (Instr.build t parts).run P w = .ok (.agg us.toArray) w := by
  obtain ⟨j, q, hjq⟩ := hp
  unfold placeOf at h hjq
  split at hjq
  · rename_i fs ht
    simp only [Option.bind_eq_some_iff] at hjq
    obtain ⟨L, hL, _⟩ := hjq
    simp only [ht, hL, Option.bind_some] at h
    have h2 := h (L.toArray[·]?) (fun j q hq => by simpa using hq)
    have h3 : (fs.mapM (m := Sem) fun f => do pure (f.offset, ← sizeOf f.type)).run P w = .ok L.toArray w := mapM_runA _ _ (fun f q hq => by
      simp only [Option.map_eq_some_iff] at hq
      obtain ⟨i, hi, rfl⟩ := hq
      simp [sizeOf, typeInfo, hi]) hL
    have h4 : (zeroValue t).run P w = .ok zv w := by simp [zeroValue, typeInfo, hi, hz]
    simp only [Instr.build, Sem.run_bind, h4, Result.andThen, run_underlying ht, h3, h2]
    rfl
  · rename_i m e ht
    simp only [Option.map_eq_some_iff] at hjq
    obtain ⟨z, hsz, _⟩ := hjq
    simp only [ht, hsz, Option.map_some] at h
    have h2 := h (fun i => some (i * z, z)) (fun j q hq => by simpa using hq)
    simp [Instr.build, zeroValue, typeInfo, hi, hz, run_underlying ht, run_sizeOf' hsz, h2]
  · cases hjq

end
end Go.Lw
end

/-! Each operation of the machine (calls apart) does what its Go operation does: parts put together. -/
section
namespace Go.Lw
open Go Go.RowKit

section
variable {fi : Nat → Option Nat} {M M' : Mem} {w w' : World} {P : Program} {s s' : St} {a : Act} {cf : CallF}

def evPart (a : Act) (q : Nat × Operand) : Nat × Value := (q.1, a.eval q.2)

theorem evalPs_sim (hI : Inv fi M w s a) {t : TypeId} {place : Nat → Option (Nat × Nat)} (hpl : ∀ j q, placeOf P t j = some q → place j = some q) (mk : Nat → Loc) : ∀ {ps : List (Nat × Nat × IX)} {os : List (Nat × Operand)} {vs : List (Nat × Nat × PV)},
    mParts P fi t ps os = true → evalPs s.env ps = some vs → (∀ p ∈ vs, argOk p.2.2 = true) → PartsRel fi M w place mk vs (os.map (evPart a))
  | [], [], vs, _, h, _ => by simp [evalPs] at h; subst h; exact trivial
  | [], _ :: _, _, hm, _, _ => by simp [mParts] at hm
  | (_, _, _) :: _, [], _, hm, _, _ => by simp [mParts] at hm
  | (off, k, x) :: ps, (i, o) :: os, vs, hm, h, hok => by
    simp only [mParts, Bool.and_eq_true, beq_iff_eq] at hm
    simp only [evalPs, Option.bind_eq_some_iff, Option.map_eq_some_iff] at h
    obtain ⟨v, hv, vs', hvs, rfl⟩ := h
    exact ⟨hpl _ _ hm.1.1, (evalX_sim hI hm.1.2 hv).repAt, hok (off, k, v) (by simp), evalPs_sim hI hpl mk hm.2 hvs (fun p hp => hok p (by simp [hp]))⟩

theorem zeros_sim {t : TypeId} {z : List PV} (h : zerosAre P t z = true) : ∃ i zv, P.info? t = some i ∧ i.zero = some zv ∧ zv.cells.toList.length = z.length ∧
    ∀ (mk : Nat → Loc) (i : Nat) (c : PV) (u : Value), z[i]? = some c → zv.cells.toList[i]? = some u → RepC fi M w (mk i) c u := by
  unfold zerosAre at h
  split at h
  · rename_i zv hz
    simp only [Option.bind_eq_some_iff] at hz
    obtain ⟨i, hi, hzv⟩ := hz
    obtain ⟨h1, h2⟩ := cOks_get h
    exact ⟨i, zv, hi, hzv, h1, fun mk i c u hc hu => cOk1_C (h2 i c u hc hu) _⟩
  · cases h

/-- Parts filled in. -/
theorem build_sim {t : TypeId} {z cs : List PV} {vs : List (Nat × Nat × PV)} {parts : Array (Nat × Value)} (hpl : (placeOf P t 0).isSome = true) (hz : zerosAre P t z = true) (hz1 : ∀ c ∈ z, c.one = true) (h : fillAt z vs = some cs) (mk : Nat → Loc)
    (hp : ∀ place : Nat → Option (Nat × Nat), (∀ j q, placeOf P t j = some q → place j = some q) → PartsRel fi M w place mk vs parts.toList) :
    ∃ v, (Instr.build t parts).run P w = .ok v w ∧ RepAt fi M w mk (.agg cs) v := by
  obtain ⟨i, zv, hi, hzv, hl, hzr⟩ := zeros_sim (fi := fi) (M := M) (w := w) hz
  obtain ⟨q, hq⟩ := Option.isSome_iff_exists.1 hpl
  have F := fun (place : Nat → Option (Nat × Nat)) (hpl : ∀ j q, placeOf P t j = some q → place j = some q) => fill_sim vs parts.toList z cs zv.cells.toList h hl (hzr mk) (hp place hpl) hz1
  obtain ⟨us, h1, h2, h3, _⟩ := F (placeOf P t) (fun _ _ h => h)
  refine ⟨.agg us.toArray, run_build hi hzv (fun place hpl => ?_) ⟨0, q, hq⟩, ⟨us, rfl, h2, h3⟩⟩
  obtain ⟨us', g1, _⟩ := F place hpl
  have mono : ∀ (l : List (Nat × Value)) (cells : Array Value) (r : Array Value), Instr.fill (placeOf P t) cells l = some r → Instr.fill place cells l = some r := by
    intro l
    induction l with
    | nil => intro cells r h; exact h
    | cons x l ih =>
      intro cells r h
      obtain ⟨i, v⟩ := x
      simp only [Instr.fill] at h ⊢
      split at h
      · cases h
      · rename_i off size hq
        rw [hpl _ _ hq]
        simp only
        split at h
        · cases h
        · rename_i hc
          rw [if_neg hc]
          exact ih _ _ h
  exact mono _ _ _ (by simpa using h1)

theorem sim_build {o : Oper} {d : Nat} {z : List PV} {ps : List (Nat × Nat × IX)} (A : Asks P fi M w s a o (.build d z ps)) (h : opStep cf s (.build d z ps) = some s') : Sim P fi o M w s' a := by
  obtain ⟨dst, op, ty, pos, aft, gd⟩ := o
  obtain ⟨hI, hm, hd, hlt⟩ := A
  cases op <;> simp only [mOp, Bool.false_eq_true] at hm
  rename_i t parts
  simp only [Bool.and_eq_true] at hm
  obtain ⟨⟨hpl, hz⟩, hps⟩ := hm
  simp only [opStep, Option.bind_eq_some_iff] at h
  obtain ⟨vs, hvs, h⟩ := h
  split at h
  · rename_i hc
    simp only [List.all_eq_true] at hc
    simp only [Option.map_eq_some_iff] at h
    obtain ⟨cs, hcs, rfl⟩ := h
    obtain ⟨v, h1, h2⟩ := build_sim (P := P) (parts := parts.map (evPart a)) hpl hz hc.2 hcs (Loc.env d) (fun place hp => by
      have := evalPs_sim hI hp (Loc.env d) hps hvs hc.1
      simpa using this)
    refine Sim.pure hI hd (hlt d rfl) (v := v) ?_ h2
    have e : (parts.map fun (x : Nat × Operand) => match x with | (i, x) => (i, a.eval x)) = parts.map (evPart a) := rfl
    simp only [execOp, e, Sem.run_bind, h1]; rfl
  · cases h

/-- What is taken out of a slot, and how its right goes. -/
theorem take_rel (hI : Inv fi M w s a) {x : IX} {o : Operand} (hm : mX fi x o = true) {v : PV} {e : List (Nat × PV)} (h : takeX s.env x = some (v, e)) :
    ∃ f : Loc → Loc, (∀ i, f (.res i) = .res i) ∧ Inv fi (M.rel f) w ⟨e, s.lh, s.gh⟩ a ∧ RepAt fi (M.rel f) w Loc.lim v (a.eval o) := by
  cases x with
  | t n =>
    cases o with
    | tmp m =>
      simp only [mX, beq_iff_eq] at hm; subst hm
      simp only [takeX, Option.map_eq_some_iff, Prod.mk.injEq] at h
      obtain ⟨v', hv, rfl, rfl⟩ := h
      have hn := hI.env n v' hv
      refine ⟨toLim n, fun _ => rfl, hI.rel _ _ (fun t u hu => ?_) (fun _ _ => rfl) (fun _ _ => rfl), hn.2.rel _ (fun i => by simp [toLim])⟩
      rw [get_put] at hu
      by_cases htn : n = t
      · subst htn
        simp at hu; subst hu
        exact ⟨hn.1, (hn.2.degr.rel _).repAt⟩
      · simp [htn] at hu
        exact ⟨(hI.env t u hu).1, (hI.env t u hu).2.rel _ (fun i => by simp [toLim, Ne.symm htn])⟩
    | _ => simp [mX] at hm
  | c p =>
    cases o with
    | const u =>
      simp only [takeX, Option.some.injEq, Prod.mk.injEq] at h
      obtain ⟨rfl, rfl⟩ := h
      exact ⟨id, fun _ => rfl, hI.rel _ _ (fun t u hu => ⟨(hI.env t u hu).1, (hI.env t u hu).2.rel _ (fun _ => rfl)⟩) (fun _ _ => rfl) (fun _ _ => rfl), cOk_at hm _⟩
    | _ => simp [mX] at hm
  | f id' =>
    cases o with
    | func F =>
      simp only [takeX, Option.some.injEq, Prod.mk.injEq] at h
      obtain ⟨rfl, rfl⟩ := h
      refine ⟨id, fun _ => rfl, hI.rel _ _ (fun t u hu => ⟨(hI.env t u hu).1, (hI.env t u hu).2.rel _ (fun _ => rfl)⟩) (fun _ _ => rfl) (fun _ _ => rfl), ?_⟩
      exact ((evalX_sim hI (x := .f id') hm rfl).rel _).repAt
    | _ => simp [mX] at hm

theorem takePs_sim {t : TypeId} : ∀ {ps : List (Nat × Nat × IX)} {os : List (Nat × Operand)} {vs : List (Nat × Nat × PV)} {M : Mem} {s : St} {e : List (Nat × PV)}, Inv fi M w s a →
    mParts P fi t ps os = true → takePs s.env ps = some (vs, e) → (∀ p ∈ vs, argOk p.2.2 = true) →
    ∃ M1, Inv fi M1 w ⟨e, s.lh, s.gh⟩ a ∧ Kp M w M1 w ∧ (∀ (mk : Nat → Nat) p v, RepAt fi M w (fun i => .res (mk i)) p v → RepAt fi M1 w (fun i => .res (mk i)) p v) ∧
      ∀ place : Nat → Option (Nat × Nat), (∀ j q, placeOf P t j = some q → place j = some q) → PartsRel fi M1 w place Loc.res vs (os.map (evPart a))
  | [], [], vs, M, s, e, hI, _, h, _ => by
    simp [takePs] at h
    obtain ⟨rfl, rfl⟩ := h
    exact ⟨M, hI, Kp.refl M w, fun _ _ _ h => h, fun _ _ => trivial⟩
  | [], _ :: _, _, _, _, _, _, hm, _, _ => by simp [mParts] at hm
  | (_, _, _) :: _, [], _, _, _, _, _, hm, _, _ => by simp [mParts] at hm
  | (off, k, x) :: ps, (i, o) :: os, vs, M, s, e, hI, hm, h, hok => by
    simp only [mParts, Bool.and_eq_true, beq_iff_eq] at hm
    simp only [takePs, Option.bind_eq_some_iff, Option.map_eq_some_iff, Prod.mk.injEq, Prod.exists] at h
    obtain ⟨v, e1, hv, vs', e2, hvs, rfl, rfl⟩ := h
    obtain ⟨f, hf, hI1, hr1⟩ := take_rel hI hm.1.2 hv
    have hI2 := hI1.rel (fromLim fun j => .res (off + j)) e1 (fun t u hu => ⟨(hI1.env t u hu).1, (hI1.env t u hu).2.rel _ (fun i => rfl)⟩) (fun _ _ => rfl) (fun _ _ => rfl)
    have hr2 := hr1.rel (mk' := fun j => .res (off + j)) (fromLim fun j => .res (off + j)) (fun i => rfl)
    obtain ⟨M3, hI3, k3, p3, r3⟩ := takePs_sim (t := t) hI2 hm.2 hvs (fun p hp => hok p (by simp [hp]))
    refine ⟨M3, hI3, ((Kp.rel M w f).trans (Kp.rel _ w _)).trans k3, fun mk p u hu => p3 mk p u ((hu.rel f (fun i => hf _)).rel _ (fun i => rfl)), fun place hpl => ?_⟩
    exact ⟨hpl _ _ hm.1.1, p3 (fun j => off + j) _ _ hr2, hok (off, k, v) (by simp), r3 place hpl⟩

def fromRes (mk : Nat → Loc) : Loc → Loc
  | .res i => mk i
  | l => l

theorem sim_buildT {o : Oper} {d : Nat} {z : List PV} {ps : List (Nat × Nat × IX)} (A : Asks P fi M w s a o (.buildT d z ps)) (h : opStep cf s (.buildT d z ps) = some s') : Sim P fi o M w s' a := by
  obtain ⟨dst, op, ty, pos, aft, gd⟩ := o
  obtain ⟨hI, hm, hd, hlt⟩ := A
  cases op <;> simp only [mOp, Bool.false_eq_true] at hm
  rename_i t parts
  simp only [Bool.and_eq_true] at hm
  obtain ⟨⟨hpl, hz⟩, hps⟩ := hm
  simp only [opStep, Option.bind_eq_some_iff] at h
  obtain ⟨⟨vs, e⟩, hvs, h⟩ := h
  simp only at h
  split at h
  · rename_i hc
    simp only [List.all_eq_true] at hc
    simp only [Option.map_eq_some_iff] at h
    obtain ⟨cs, hcs, rfl⟩ := h
    obtain ⟨M1, hI1, k1, _, r1⟩ := takePs_sim (P := P) hI hps hvs hc.1
    obtain ⟨v, h1, h2⟩ := build_sim (P := P) (parts := parts.map (evPart a)) hpl hz hc.2 hcs Loc.res (fun place hp => by simpa using r1 place hp)
    have hI2 := hI1.rel (fromRes (Loc.env d)) e (fun t u hu => ⟨(hI1.env t u hu).1, (hI1.env t u hu).2.rel _ (fun i => rfl)⟩) (fun _ _ => rfl) (fun _ _ => rfl)
    have h3 := h2.rel (mk' := Loc.env d) (fromRes (Loc.env d)) (fun i => rfl)
    refine ⟨.value v, v, _, w, ?_, .inl rfl, by rw [show dst = some d from hd]; exact Inv.put (s := ⟨e, s.lh, s.gh⟩) hI2 (hlt d rfl) h3, k1.trans (Kp.rel _ w _)⟩
    have e : (parts.map fun (x : Nat × Operand) => match x with | (i, x) => (i, a.eval x)) = parts.map (evPart a) := rfl
    simp only [execOp, e, Sem.run_bind, h1]; rfl
  · cases h

/-! ### lists written out -/

theorem sim_buildSl {o : Oper} {d z : Nat} {els : List IX} (A : Asks P fi M w s a o (.buildSl d z els)) (h : opStep cf s (.buildSl d z els) = some s') : Sim P fi o M w s' a := by
  obtain ⟨dst, op, ty, pos, aft, gd⟩ := o
  obtain ⟨hI, hm, hd, hlt⟩ := A
  cases op <;> simp only [mOp, Bool.false_eq_true] at hm
  rename_i t len parts
  simp only [Bool.and_eq_true, beq_iff_eq, decide_eq_true_eq] at hm
  obtain ⟨⟨⟨⟨⟨⟨he, hz0⟩, hlen⟩, hbd⟩, hidx⟩, hmx⟩, hzs⟩ := hm
  obtain ⟨e, ht, hsz⟩ := elem_of he
  rw [ht] at hzs
  simp only [Option.isSome_iff_exists, Option.bind_eq_some_iff] at hzs
  obtain ⟨zv, i, hi, hzv⟩ := hzs
  simp only [opStep, Option.bind_eq_some_iff] at h
  obtain ⟨vs, hvs, h⟩ := h
  split at h
  · rename_i hc
    simp only [List.all_eq_true, Bool.and_eq_true, beq_iff_eq] at hc
    cases h
    obtain ⟨h1, h2⟩ := evalXs_sim hI hmx hvs
    have hvl : vs.length = len := by rw [← h1, List.length_map, ← List.length_map (f := Prod.fst) (as := parts.toList), hidx, List.length_range']
    generalize hrest : ((Array.range (len * z)).map ((if len * z = 0 then #[] else zv.cells)[· % (if len * z = 0 then (#[] : Array Value) else zv.cells).size]!)).toList = rest
    have hrl : rest.length = vs.length * z := by rw [← hrest]; simp [hvl]
    obtain ⟨us, f1, f2, f3⟩ := fill_row (fi := fi) (M := M) (w := w) (z := z) vs 0 (parts.toList.map (evPart a)) [] rest (by simp) hrl hc (by
      rw [List.map_map, hvl, ← hidx]; rfl) (fun i p y hp hy => by
      simp only [List.getElem?_map, Option.map_eq_some_iff] at hy
      obtain ⟨q, hq, rfl⟩ := hy
      have := h2 i p q.2 hp (by simp [hq])
      exact this.repP (by simpa [argOk] using (hc p (List.mem_of_getElem? hp)).1))
    simp only [List.nil_append] at f1
    obtain ⟨M1, hI1, k1⟩ := hI.newOwn (hlt d rfl) (fun e he => (hc e he).2) (fun e he => (hc e he).1) us [] f2 f3 vs.length (Nat.le_refl _) (by simp [f2]) e us.toArray (by simp)
    refine ⟨_, .slice (some ⟨w.heap.size, 0, none⟩) vs.length vs.length, M1, _, ?_, .inl rfl, by rw [show dst = some d from hd]; exact hI1, k1⟩
    have e1 : (parts.map fun (x : Nat × Operand) => match x with | (i, x) => (i, a.eval x)) = parts.map (evPart a) := rfl
    have hbd' : ¬ (len * z > 2 ^ 24) := by omega
    have f1' : Instr.fill (fun i => some (i * z, z)) ((Array.range (len * z)).map ((if len * z = 0 then #[] else zv.cells)[· % (if len * z = 0 then (#[] : Array Value) else zv.cells).size]!)) (parts.map (evPart a)).toList = some us.toArray := by
      rw [← f1, ← hrest, Array.toArray_toList]; congr 1; simp
    have hrun : (Instr.buildSlice t len (parts.map (evPart a))).run P w = .ok (.slice (some ⟨w.heap.size, 0, none⟩) len len) (w.alloc (.cells us.toArray e)) := by
      have hzv' : (zeroValue e).run P w = .ok zv w := by simp [zeroValue, typeInfo, hi, hzv]
      by_cases h0 : len * z = 0
      · simp only [if_pos h0] at f1'
        simp only [Instr.buildSlice, Sem.run_bind, run_underlying ht, run_sizeOf' hsz, Result.andThen_ok, if_neg hbd', if_pos h0, Sem.run_pure, f1']
        simp [newRow]
      · simp only [if_neg h0] at f1'
        simp only [Instr.buildSlice, Sem.run_bind, run_underlying ht, run_sizeOf' hsz, Result.andThen_ok, if_neg hbd', if_neg h0, hzv', Sem.run_pure, f1']
        simp [newRow]
    simp only [execOp, e1, Sem.run_bind, hrun, hvl]; rfl
  · cases h

end
end Go.Lw
end

/-! What a function that is called sees of memory, and what is told of it when it is back. -/
section
namespace Go.Lw
open Go Go.RowKit

section
variable {fi : Nat → Option Nat} {M M' : Mem} {w w' : World} {P : Program} {s s' : St} {a : Act} {cf : CallF}

/-- Memory with the boxes of the call's own left out. -/
def Mem.noLb (M : Mem) : Mem := { M with lb := [] }

theorem Ext.noLb (M : Mem) (w : World) : Ext M w M.noLb w := ⟨fun _ _ h => h, fun _ _ h => h, fun _ _ _ => rfl⟩

theorem OwnRep.noLb {l : Loc} {z : Nat} {xs : List PV} {v : Value} (h : OwnRep fi M w l z xs v) : OwnRep fi M.noLb w l z xs v := by
  obtain ⟨h1, h2⟩ := h
  refine ⟨h1.mono (Ext.noLb M w), ?_⟩
  rcases h2 with h2 | ⟨b, o, c, cs, e, hv, ho, hh, hs, hk, hb1, hb2⟩
  · exact .inl h2
  · exact .inr ⟨b, o, c, cs, e, hv, ho, hh, hs, hk, by simp [Mem.noLb], hb2⟩

theorem RepC.noLb {l : Loc} {p : PV} {v : Value} (h : RepC fi M w l p v) : RepC fi M.noLb w l p v := by
  unfold RepC at *
  split at h
  · exact OwnRep.noLb h
  · exact h.mono (Ext.noLb M w)

theorem RepObj.noLb {i blk : Nat} {o : GObj} (h : RepObj fi M w i blk o) : RepObj fi M.noLb w i blk o := by
  cases o with
  | cells cs =>
    obtain ⟨h1, h2, h3, h4, vs, T, h5, h6, h7⟩ := h
    exact ⟨h1, h2, h3, h4, vs, T, h5, h6, fun i c u hc hu => (h7 i c u hc hu).noLb⟩
  | map es =>
    obtain ⟨h1, h2, l, clock, h3, h4, h5⟩ := h
    exact ⟨h1, h2, l, clock, h3, h4, fun i e m he hm => ⟨(h5 i e m he hm).1.mono (Ext.noLb M w), (h5 i e m he hm).2.1.mono (Ext.noLb M w), (h5 i e m he hm).2.2⟩⟩

theorem resOk_one {p : PV} (h : resOk p = true) (h1 : ∀ cs, p ≠ .tup cs) : argOk p = true := by
  cases p with
  | tup cs => exact absurd rfl (h1 cs)
  | _ => exact h

theorem RepAt.noLb {mk : Nat → Loc} {p : PV} {v : Value} (h : RepAt fi M w mk p v) (hok : resOk p = true) : RepAt fi M.noLb w mk p v := by
  unfold RepAt at *
  split at h
  · exact OwnRep.noLb h
  · obtain ⟨vs, h1, h2, h3⟩ := h
    exact ⟨vs, h1, h2, fun i c u hc hu => (h3 i c u hc hu).noLb⟩
  · obtain ⟨vs, h1, h2, h3⟩ := h
    exact ⟨vs, h1, h2, fun i c u hc hu => (h3 i c u hc hu).noLb⟩
  · rename_i h3
    exact ((h.repP (resOk_one hok (fun cs => h3 cs))).mono (Ext.noLb M w)).repE

theorem gb_own (hI : Inv fi M w s a) {b : Nat} (hb : b ∈ M.gb) : M.own b = none := by
  obtain ⟨i, hi, rfl⟩ := List.mem_iff_getElem.1 hb
  have h2 : i < s.gh.length := by rw [← hI.gbl]; exact hi
  have := hI.gh i _ _ (List.getElem?_eq_getElem h2) (List.getElem?_eq_getElem hi)
  cases ho : s.gh[i] with
  | cells cs => rw [ho] at this; exact this.2.2.1
  | map es => rw [ho] at this; exact this.2.1

theorem lb_own (hI : Inv fi M w s a) {b : Nat} (hb : b ∈ M.lb) : M.own b = none := by
  obtain ⟨i, hi, rfl⟩ := List.mem_iff_getElem.1 hb
  have h2 : i < s.lh.length := by rw [← hI.lbl]; exact hi
  exact (hI.lh i _ _ (List.getElem?_eq_getElem h2) (List.getElem?_eq_getElem hi)).2.2.1

/-- Of the boxes that all may lead to. -/
def GI (fi : Nat → Option Nat) (M : Mem) (w : World) (gh : List GObj) : Prop := Inv fi M w ⟨[], [], gh⟩ ⟨#[], []⟩

def priv (g : Bool) : Loc → Bool
  | .gh _ _ => !g
  | _ => true

/-- What one that is called sees (g: does it see boxes?). -/
def Mem.callee (M : Mem) (g : Bool) : Mem := { lb := [], gb := if g then M.gb else [], imm := M.imm, own := fun b => (M.own b).bind fun l => if priv g l then none else some l }

def backL (g : Bool) (mk : Nat → Loc) : Loc → Option Loc
  | .gh i j => if g then some (.gh i j) else none
  | .res i => some (mk i)
  | _ => none

/-- Memory when it is back. -/
def Mem.back (M M' : Mem) (g : Bool) (mk : Nat → Loc) : Mem :=
  { lb := M.lb, gb := if g then M'.gb else M.gb, imm := M'.imm,
    own := fun b => match M.own b with
      | some l => if priv g l then some l else (M'.own b).bind (backL g mk)
      | none => (M'.own b).bind (backL g mk) }

theorem callee_own {g : Bool} {b : Nat} {l : Loc} : (M.callee g).own b = some l ↔ M.own b = some l ∧ priv g l = false := by
  simp only [Mem.callee, Option.bind_eq_some_iff]
  constructor
  · rintro ⟨l', h1, h2⟩
    cases hp : priv g l' <;> simp [hp] at h2
    subst h2; exact ⟨h1, hp⟩
  · rintro ⟨h1, h2⟩
    exact ⟨l, h1, by simp [h2]⟩

theorem callee_own_none {g : Bool} {b : Nat} : (M.callee g).own b = none ↔ (∀ l, M.own b = some l → priv g l = true) := by
  cases ho : (M.callee g).own b with
  | none =>
    simp only [true_iff]
    intro l hl
    cases hp : priv g l with
    | true => rfl
    | false => rw [callee_own.2 ⟨hl, hp⟩] at ho; cases ho
  | some l =>
    obtain ⟨h1, h2⟩ := callee_own.1 ho
    constructor
    · intro h; cases h
    · intro h; rw [h l h1] at h2; cases h2

theorem priv_gh {g : Bool} {l : Loc} (h : priv g l = false) : ∃ i j, l = .gh i j := by
  cases l <;> simp [priv] at h
  exact ⟨_, _, rfl⟩

theorem Inv.callee (hI : Inv fi M w s a) (g : Bool) : GI fi (M.callee g) w (if g then s.gh else []) ∧ (M.callee g).lb = [] ∧ ∀ b l, (M.callee g).own b = some l → ∃ i j, l = .gh i j := by
  refine ⟨⟨fun t v h => by simp [get] at h, rfl, rfl, ?_, ?_, fun i cs blk h => by simp at h, fun i o blk h1 h2 => ?_, hI.immlt, fun b l h => hI.ownlt b l (callee_own.1 h).1, fun b hb => ?_⟩, rfl, fun b l h => priv_gh (callee_own.1 h).2⟩
  · cases g
    · rfl
    · exact hI.gbl
  · cases g
    · simp [Mem.callee]
    · have := hI.nodup
      rw [List.nodup_append] at this
      simpa [Mem.callee] using this.2.1
  · cases g with
    | false => simp at h1
    | true =>
      have h3 := (hI.gh i o blk h1 h2).noLb
      have G : Good M.noLb w (M.callee true) w (fun l => priv true l = true) (fun _ => False) :=
        ⟨⟨fun _ _ h => h, fun _ _ h => h, fun _ _ _ => rfl⟩, Nat.le_refl _, fun i k h => by simp [Mem.noLb] at h,
          fun b l h hl => ⟨callee_own.2 ⟨h, by simpa using hl⟩, rfl, fun _ h => h, fun h => h, fun h => h⟩,
          fun b _ _ h => ⟨rfl, fun _ h => h, callee_own_none.2 fun l hl => by rw [show M.own b = none from h] at hl; cases hl⟩⟩
      exact h3.good G (by simp) (by simp [priv])
  · cases g with
    | false => simp [Mem.callee] at hb
    | true => exact hI.gblt b hb

/-- All is told again when it is back. -/
theorem Inv.back (hI : Inv fi M w s a) (g : Bool) {gh' : List GObj} (mk : Nat → Loc) (hmk : ∀ i, priv g (mk i) = true) (hG : GI fi M' w' gh') (hlb : M'.lb = [])
    (hk : Kp (M.callee g) w M' w') {r : PV} {v : Value} (hr : RepAt fi M' w' Loc.res r v) (hg : g = false → r.noG = true) (hok : resOk r = true) :
    Inv fi (M.back M' g mk) w' ⟨s.env, s.lh, if g then gh' else s.gh⟩ a ∧ Kp M w (M.back M' g mk) w' ∧ RepAt fi (M.back M' g mk) w' mk r v := by
  have bown : ∀ b l, M.own b = some l → priv g l = true → (M.back M' g mk).own b = some l := fun b l h hp => by simp [Mem.back, h, hp]
  have bown2 : ∀ b, (∀ l, M.own b = some l → priv g l = false) → (M.back M' g mk).own b = (M'.own b).bind (backL g mk) := fun b h => by
    cases ho : M.own b with
    | none => simp [Mem.back, ho]
    | some l => simp [Mem.back, ho, h l ho]
  -- what is the caller's own, the callee leaves
  have pv : ∀ b l, M.own b = some l → priv g l = true → M'.own b = none ∧ w'.heap[b]? = w.heap[b]? ∧ ∀ k, M'.imm b k → M.imm b k := fun b l h hp => by
    have hc : (M.callee g).own b = none := callee_own_none.2 fun l' hl' => by rw [h] at hl'; cases hl'; exact hp
    have hlt := hI.ownlt b l h
    refine ⟨hk.ownn b hlt hc, hk.block b hlt (by simp [Mem.callee]) (fun hb => ?_) hc, fun k hi => ?_⟩
    · cases g with
      | false => simp [Mem.callee] at hb
      | true => have := gb_own hI hb; rw [h] at this; cases this
    · rcases hk.immn b k hi with h1 | h1 | h1
      · exact h1
      · omega
      · exact absurd hc h1
  have no : ∀ b, b < w.heap.size → ¬ (g = true ∧ b ∈ M.gb) → M.own b = none → w'.heap[b]? = w.heap[b]? ∧ (∀ k, M'.imm b k → M.imm b k) ∧ M'.own b = none := fun b hlt hx h => by
    have hc : (M.callee g).own b = none := callee_own_none.2 fun l' hl' => by rw [h] at hl'; cases hl'
    refine ⟨hk.block b hlt (by simp [Mem.callee]) (fun hb => ?_) hc, fun k hi => ?_, hk.ownn b hlt hc⟩
    · cases g with
      | false => simp [Mem.callee] at hb
      | true => exact hx ⟨rfl, hb⟩
    · rcases hk.immn b k hi with h1 | h1 | h1
      · exact h1
      · omega
      · exact absurd hc h1
  have gbx : ∀ b, b ∈ M'.gb → b ∈ M.gb ∨ w.heap.size ≤ b := fun b hb => by
    rcases hk.gbn b hb with h1 | h1
    · cases g with
      | false => simp [Mem.callee] at h1
      | true => exact .inl h1
    · exact .inr h1
  have lbg : ∀ b, b ∈ M.lb → b ∉ M.gb := fun b h1 h2 => by
    have := hI.nodup
    rw [List.nodup_append] at this
    exact this.2.2 b h1 b h2 rfl
  have gbb : ∀ b, b ∈ (M.back M' g mk).gb → b ∈ M.gb ∨ w.heap.size ≤ b := fun b hb => by
    cases g with
    | false => exact .inl hb
    | true => exact gbx b hb
  have hext : Ext M w (M.back M' g mk) w' := ⟨fun i k h => by
      cases g with
      | false => exact h
      | true => exact hk.ext.gb i k h, hk.ext.imm, hk.ext.cell⟩
  have G : Good M w (M.back M' g mk) w' (fun l => priv g l = false) (fun b => g = true ∧ b ∈ M.gb) :=
    ⟨hext, hk.size, fun _ _ h => h,
      fun b l h hl => by
        have hp : priv g l = true := by simpa using hl
        obtain ⟨p1, p2, p3⟩ := pv b l h hp
        refine ⟨bown b l h hp, p2, fun k h1 h2 => h1 (p3 k h2), fun h => h, fun h1 h2 => ?_⟩
        rcases gbb b h2 with h3 | h3
        · exact h1 h3
        · have := hI.ownlt b l h; omega,
      fun b hlt hx h => by
        obtain ⟨n1, n2, n3⟩ := no b hlt hx h
        refine ⟨n1, fun k h1 h2 => h1 (n2 k h2), ?_⟩
        rw [bown2 b (fun l hl => by rw [h] at hl; cases hl), n3]; rfl⟩
  -- the callee's boxes
  have G2 : Good M' w' (M.back M' g mk) w' (fun l => ¬ ∃ i j, l = .gh i j ∧ g = true) (fun b => ∃ l, M.own b = some l ∧ priv g l = true) ∨ g = false := by
    cases hgb : g with
    | false => exact .inr rfl
    | true =>
      subst hgb
      refine .inl ⟨⟨fun _ _ h => h, fun _ _ h => h, fun _ _ _ => rfl⟩, Nat.le_refl _, fun i k h => by rw [hlb] at h; simp at h, fun b l h hl => ?_, fun b hlt hx h => ?_⟩
      · obtain ⟨i, j, rfl, _⟩ := Classical.not_not.1 hl
        have np : ∀ l, M.own b = some l → priv true l = false := fun l hl => by
          cases hp : priv true l with
          | false => rfl
          | true => rw [(pv b l hl hp).1] at h; cases h
        refine ⟨by rw [bown2 b np, h]; rfl, rfl, fun _ h => h, fun _ h2 => ?_, fun h => h⟩
        have h3 := lb_own hI h2
        have h4 := (no b (lb_lt hI b h2) (fun hx => lbg b h2 hx.2) h3).2.2
        rw [h4] at h; cases h
      · refine ⟨rfl, fun _ h => h, ?_⟩
        rw [bown2 b (fun l hl => by
          cases hp : priv true l with
          | false => rfl
          | true => exact absurd ⟨l, hl, hp⟩ hx), h]; rfl
  refine ⟨⟨fun t u hu => ⟨(hI.env t u hu).1, (hI.env t u hu).2.good G (fun i => by simp [priv])⟩, hI.defers, hI.lbl, ?_, ?_, fun i cs blk h1 h2 => (hI.lh i cs blk h1 h2).good G (fun hx => lbg blk (List.mem_of_getElem? h2) hx.2) (fun i => by simp [priv]),
    fun i o blk h1 h2 => ?_, hG.immlt, fun b l h => ?_, fun b hb => ?_⟩, ⟨hk.os, hk.tape, hk.output, hk.size, hext, fun k hlt h1 h2 h3 => (no k hlt (fun hx => h2 hx.2) h3).1, fun k h => .inl h, gbb, fun k hlt h => ?_, fun b k h => ?_⟩, ?_⟩
  · cases g with
    | false => exact hI.gbl
    | true => exact hG.gbl
  · cases g with
    | false => exact hI.nodup
    | true =>
      have h1 := hI.nodup
      have h2 := hG.nodup
      rw [List.nodup_append] at h1 ⊢
      rw [hlb, List.nil_append] at h2
      refine ⟨h1.1, h2, fun x hx y hy hxy => ?_⟩
      subst hxy
      rcases gbx x hy with h3 | h3
      · exact lbg x hx h3
      · have := lb_lt hI x hx; omega
  · cases g with
    | false => exact (hI.gh i o blk h1 h2).good G (by simp) (fun j => by simp [priv])
    | true =>
      have h3 := hG.gh i o blk h1 h2
      refine h3.good (G2.resolve_right (by simp)) ?_ (fun j h => h ⟨i, j, rfl, rfl⟩)
      rintro ⟨l, h4, h5⟩
      rcases gbx blk (List.mem_of_getElem? h2) with h6 | h6
      · have := gb_own hI h6; rw [h4] at this; cases this
      · have := hI.ownlt blk l h4; omega
  · cases ho : M.own b with
    | some l' => exact Nat.lt_of_lt_of_le (hI.ownlt b l' ho) hk.size
    | none =>
      rw [bown2 b (fun l hl => by rw [ho] at hl; cases hl), Option.bind_eq_some_iff] at h
      obtain ⟨l', h1, _⟩ := h
      exact hG.ownlt b l' h1
  · cases g with
    | false => exact Nat.lt_of_lt_of_le (hI.gblt b hb) hk.size
    | true => exact hG.gblt b hb
  · by_cases hx : g = true ∧ k ∈ M.gb
    · obtain ⟨rfl, hx⟩ := hx
      have hc : (M.callee true).own k = none := callee_own_none.2 fun l' hl' => by rw [h] at hl'; cases hl'
      rw [bown2 k (fun l hl => by rw [h] at hl; cases hl), hk.ownn k hlt hc]; rfl
    · rw [bown2 k (fun l hl => by rw [h] at hl; cases hl), (no k hlt hx h).2.2]; rfl
  · rcases hk.immn b k h with h1 | h1 | h1
    · exact .inl h1
    · exact .inr (.inl h1)
    · refine .inr (.inr fun h2 => h1 (callee_own_none.2 fun l hl => by rw [h2] at hl; cases hl))
  · -- the result
    have ow : ∀ {i : Nat} {z : Nat} {xs : List PV} {u : Value}, OwnRep fi M' w' (.res i) z xs u → (g = false → noGs xs = true) → OwnRep fi (M.back M' g mk) w' (mk i) z xs u := by
      intro i z xs u h hng
      obtain ⟨h1, h2⟩ := h
      have e1 : RepP fi (M.back M' g mk) w' (.sl false z xs) u := by
        cases hgb : g with
        | true => subst hgb; exact h1.mono (show Ext M' w' (M.back M' true mk) w' from ⟨fun _ _ h => h, fun _ _ h => h, fun _ _ _ => rfl⟩)
        | false =>
          subst hgb
          exact (h1.noG M.gb (by simpa [PV.noG] using hng rfl)).mono (show Ext { M' with gb := M.gb } w' (M.back M' false mk) w' from ⟨fun _ _ h => h, fun _ _ h => h, fun _ _ _ => rfl⟩)
      refine ⟨e1, ?_⟩
      rcases h2 with h2 | ⟨b, o, c, cs, e, hv, ho, hh, hs, hk', hb1, hb2⟩
      · exact .inl h2
      · have np : ∀ l, M.own b = some l → priv g l = false := fun l hl => by
          cases hp : priv g l with
          | false => rfl
          | true => rw [(pv b l hl hp).1] at ho; cases ho
        refine .inr ⟨b, o, c, cs, e, hv, by rw [bown2 b np, ho]; rfl, hh, hs, hk', fun h2 => ?_, fun h2 => ?_⟩
        · have h3 := lb_own hI h2
          have h4 := (no b (lb_lt hI b h2) (fun hx => lbg b h2 hx.2) h3).2.2
          rw [h4] at ho; cases ho
        · cases hgb : g with
          | true => subst hgb; exact hb2 h2
          | false =>
            subst hgb
            have h3 := gb_own hI (b := b) h2
            have h4 := (no b (hI.gblt b h2) (by simp) h3).2.2
            rw [h4] at ho; cases ho
    have rp : ∀ {p : PV} {u : Value}, RepP fi M' w' p u → (g = false → p.noG = true) → RepP fi (M.back M' g mk) w' p u := by
      intro p u h hng
      cases hgb : g with
      | true => subst hgb; exact h.mono (show Ext M' w' (M.back M' true mk) w' from ⟨fun _ _ h => h, fun _ _ h => h, fun _ _ _ => rfl⟩)
      | false =>
        subst hgb
        exact (h.noG M.gb (hng rfl)).mono (show Ext { M' with gb := M.gb } w' (M.back M' false mk) w' from ⟨fun _ _ h => h, fun _ _ h => h, fun _ _ _ => rfl⟩)
    have rc : ∀ {i : Nat} {p : PV} {u : Value}, RepC fi M' w' (.res i) p u → (g = false → p.noG = true) → RepC fi (M.back M' g mk) w' (mk i) p u := by
      intro i p u h hng
      unfold RepC at *
      split at h
      · exact ow h (fun e => by simpa [PV.noG] using hng e)
      · exact rp h hng
    unfold RepAt at hr ⊢
    split at hr
    · exact ow hr (fun e => by simpa [PV.noG] using hg e)
    · obtain ⟨vs, h1, h2, h3⟩ := hr
      exact ⟨vs, h1, h2, fun i c u hc hu => rc (h3 i c u hc hu) (fun e => noGs_get (by simpa [PV.noG] using hg e) hc)⟩
    · obtain ⟨vs, h1, h2, h3⟩ := hr
      exact ⟨vs, h1, h2, fun i c u hc hu => rc (h3 i c u hc hu) (fun e => noGs_get (by simpa [PV.noG] using hg e) hc)⟩
    · rename_i h3
      exact (rp (hr.repP (resOk_one hok (fun cs => h3 cs))) hg).repE

end
end Go.Lw
end
