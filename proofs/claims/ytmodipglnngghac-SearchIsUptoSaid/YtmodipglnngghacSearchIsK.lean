/-
  The texts that the proof stands on, part 11.
-/
import Derived.Test.YtmodipglnngghacSearchIsJ
import Derived.Laws.MakeOwn
set_option linter.unusedVariables false
set_option linter.unusedSimpArgs false
set_option linter.unnecessarySimpa false

/-! Each operation of the machine (calls apart) does what its Go operation does: parts, maps, lengths, appends. -/
section
namespace Go.Lw
open Go Go.RowKit
section
variable {fi : FI} {M M' : Mem} {w w' : World} {P : Program} {s s' : St} {a : Act} {cf : CallF}
theorem sim_index {o : Oper} {d z m : Nat} {agg : Bool} {x i : IX} (A : Asks P fi M w s a o (.index d z m agg x i)) (h : opStep cf s (.index d z m agg x i) = some s') : Sim P fi o M w s' a := by
  obtain ⟨dst, op, ty, pos, aft, gd⟩ := o
  obtain ⟨hI, hm, hd, hlt⟩ := A
  cases op <;> simp [mOp] at hm
  rename_i t y j
  obtain ⟨⟨hx, hi⟩, hm⟩ := hm
  split at hm
  · rename_i m' e ht
    simp at hm
    obtain ⟨⟨rfl, hz⟩, ha⟩ := hm
    simp only [opStep] at h
    split at h
    · rename_i k n hn
      have hiv := (evalX_sim hI hi hn).int
      split at h
      · rename_i cs hp
        split at h
        · rename_i hc
          simp only [Option.map_eq_some_iff] at h
          obtain ⟨p, hg, rfl⟩ := h
          obtain ⟨vs, hv, hl, hvv⟩ := (evalX_sim hI hx hp).agg
          obtain ⟨r, h1, h2⟩ := grab_sim (P := P) hg hl hvv ha (fun _ => hz)
          refine Sim.pure hI hd (hlt d rfl) ?_ h2.repE.repAt
          simp [execOp, hiv, hv, Instr.index, run_underlying ht, asIntOf, hc.1, hc.2, run_sizeOf' hz, h1]
        · cases h
      · cases h
    · cases h
  · cases hm
theorem sim_indexS {o : Oper} {d : Nat} {x i : IX} (A : Asks P fi M w s a o (.indexS d x i)) (h : opStep cf s (.indexS d x i) = some s') : Sim P fi o M w s' a := by
  obtain ⟨dst, op, ty, pos, aft, gd⟩ := o
  obtain ⟨hI, hm, hd, hlt⟩ := A
  cases op <;> simp [mOp] at hm
  rename_i t y j
  obtain ⟨⟨hx, hi⟩, hm⟩ := hm
  have ht : P.underlying t = some .string := by
    split at hm
    · assumption
    · cases hm
  simp only [opStep] at h
  split at h
  · rename_i k n hn
    have hiv := (evalX_sim hI hi hn).int
    split at h
    · rename_i b hp
      have hv := (evalX_sim hI hx hp).str
      split at h
      · rename_i h0
        simp only [Option.map_eq_some_iff] at h
        obtain ⟨u, hu, rfl⟩ := h
        exact Sim.pure hI hd (hlt d rfl) (v := .int .u8 u.toNat) (by simp [execOp, hiv, hv, index_str (P := P) ht h0 hu]) (RepP.repE (.int _ _)).repAt
      · cases h
    · cases h
  · cases h
theorem sim_lookup {o : Oper} {d kn : Nat} {m k : IX} {ok : Bool} {zero : PV} (A : Asks P fi M w s a o (.lookup d kn m k ok zero)) (h : opStep cf s (.lookup d kn m k ok zero) = some s') : Sim P fi o M w s' a := by
  obtain ⟨dst, op, ty, pos, aft, gd⟩ := o
  obtain ⟨hI, hm, hd, hlt⟩ := A
  cases op <;> simp [mOp] at hm
  rename_i t y j ok'
  obtain ⟨⟨⟨hx, hk⟩, rfl⟩, hm⟩ := hm
  split at hm
  · rename_i kt et ht
    simp only [Bool.and_eq_true] at hm
    obtain ⟨hkt, hz⟩ := hm
    simp only [opStep] at h
    split at h
    · rename_i b kv hp hkv
      split at h
      · rename_i es hes
        split at h
        · cases h
        · rename_i hki
          have hki' : isKey kn kv = true := by simpa using hki
          unfold zeroIs at hz
          cases hit : P.info? et with
          | none => simp [hit] at hz
          | some it =>
            cases hzv : it.zero with
            | none => simp [hit, hzv] at hz
            | some zv =>
              simp [hit, hzv] at hz
              have L := fun (r : Option PV) (hr : mfind kn es kv = some r) => lookup_sim (P := P) hI ht hkt hit hzv hz (evalX_sim hI hx hp) hes (evalX_sim hI hk hkv) hki' (ok := ok) hr
              split at h
              · rename_i v hf
                cases h
                obtain ⟨r, h1, h2⟩ := L _ hf
                exact Sim.pure hI hd (hlt d rfl) (by simp [execOp, h1]) h2.repE.repAt
              · rename_i hf
                cases h
                obtain ⟨r, h1, h2⟩ := L _ hf
                exact Sim.pure hI hd (hlt d rfl) (by simp [execOp, h1]) h2.repE.repAt
              · cases h
      · cases h
    · cases h
  · cases hm
theorem sim_mupd {o : Oper} {kn : Nat} {m k x : IX} (A : Asks P fi M w s a o (.mupd kn m k x)) (h : opStep cf s (.mupd kn m k x) = some s') : Sim P fi o M w s' a := by
  obtain ⟨dst, op, ty, pos, aft, gd⟩ := o
  obtain ⟨hI, hm, hd, hlt⟩ := A
  have hdn : dst = none := hd
  subst hdn
  simp only [opStep] at h
  split at h
  · rename_i b kv v hp hkv hv
    split at h
    · rename_i es hes
      split at h
      · rename_i hc
        simp only [Option.map_eq_some_iff] at h
        obtain ⟨es', hs, rfl⟩ := h
        cases op <;> simp [mOp] at hm <;> rename_i t y j z <;> obtain ⟨⟨⟨hx, hk⟩, hy⟩, hm⟩ := hm <;> split at hm <;> try (cases hm; done)
        all_goals
          rename_i kt et ht
          obtain ⟨w2, h1, h2, h3⟩ := mupd_sim (P := P) hI ht hm (evalX_sim hI hx hp) hes (evalX_sim hI hk hkv) hc.2.2 (evalX_sim hI hy hv) hc.1 hc.2.1 hs
          exact ⟨.skip, undef, M, w2, by simp [execOp, h1], .inr ⟨rfl, rfl⟩, h2, h3⟩
      · cases h
    · cases h
  · cases h
theorem invoke_builtin {b : Builtin} {ats : Array TypeId} {ty : TypeId} {cs : Array Bool} {args : Array Value} : invoke (.builtin b ats ty cs) args = builtin b ats ty cs args := rfl
theorem sim_len {o : Oper} {d kd : Nat} {x : IX} (A : Asks P fi M w s a o (.len d kd x)) (h : opStep cf s (.len d kd x) = some s') : Sim P fi o M w s' a := by
  obtain ⟨dst, op, ty, pos, aft, gd⟩ := o
  obtain ⟨hI, hm, hd, hlt⟩ := A
  cases op with
  | call c =>
    obtain ⟨callee, args, argTypes⟩ := c
    cases callee with
    | builtin b =>
      cases b <;> simp [mOp] at hm
      split at hm
      · rename_i y t ha ht
        simp only [Bool.and_eq_true] at hm
        obtain ⟨hx, hm⟩ := hm
        have ha' : args = #[y] := by apply Array.ext'; simpa using ha
        subst ha'
        have fin : ∀ (n : Nat), (Builtin.len_ argTypes ty #[a.eval y]).run P w = .ok (.int .i64 n) w → Sim P fi ⟨dst, .call ⟨.builtin .len, #[y], argTypes⟩, ty, pos, aft, gd⟩ M w (s.put d (.int .i64 n)) a := fun n hn => by
          refine Sim.pure hI hd (hlt d rfl) (v := .int .i64 n) ?_ (RepP.repE (.int _ _)).repAt
          simp [execOp, resolve, invoke_builtin, builtin, hn]
        obtain rfl | rfl | rfl | h4 : kd = 0 ∨ kd = 1 ∨ kd = 2 ∨ 3 ≤ kd := by omega
        · split at hm <;> try (first | (simp at hm; done) | omega)
          rename_i e _ hu
          simp only [opStep] at h
          split at h <;> try (first | (simp at h; done) | omega)
          · rename_i ow z xs _ hp
            cases h
            obtain ⟨A, c, hv, hcl⟩ := (evalX_sim hI hx hp).slC
            exact fin _ (by rw [hv]; exact len_sl (P := P) ht hu w)
          · rename_i g b off n z _ hp
            cases h
            have hx' := evalX_sim hI hx hp
            have hv : ∃ A c, a.eval y = .slice A n c := by
              cases g with
              | true =>
                generalize hu : a.eval y = u at hx'
                cases (show RepP fi M w (.bs true b off n z) u from hx') with
                | bs _ _ _ _ A c blk hb hA hc => exact ⟨A, c, rfl⟩
              | false => obtain ⟨blk, A, c, _, hv, _⟩ := hx'; exact ⟨A, c, hv⟩
            obtain ⟨A, c, hv⟩ := hv
            exact fin _ (by rw [hv]; exact len_sl (P := P) ht hu w)
          · rename_i b gen n _ hp
            cases h
            have hx' := evalX_sim hI hx hp
            have hv : ∃ A c, a.eval y = .slice A n c := by
              generalize hu : a.eval y = u at hx'
              cases (show RepP fi M w (.stk b gen n) u from hx') with
              | stk _ _ _ blk c hb hg hA hc => exact ⟨_, c, rfl⟩
            obtain ⟨A, c, hv⟩ := hv
            exact fin _ (by rw [hv]; exact len_sl (P := P) ht hu w)
          · rename_i b gen off n _ hp
            cases h
            have hx' := evalX_sim hI hx hp
            have hv : ∃ A c, a.eval y = .slice A n c := by
              generalize hu : a.eval y = u at hx'
              cases (show RepP fi M w (.sub b gen off n) u from hx') with
              | sub _ _ _ _ blk c A hb hg hA hc hAd => exact ⟨_, c, rfl⟩
            obtain ⟨A, c, hv⟩ := hv
            exact fin _ (by rw [hv]; exact len_sl (P := P) ht hu w)
          · rename_i _ hp
            cases h
            have hx' := evalX_sim hI hx hp
            have hv : a.eval y = .slice none 0 0 := by
              generalize hu : a.eval y = u at hx'
              cases (show RepP fi M w .nils u from hx') with
              | nils => rfl
            exact fin _ (by rw [hv]; exact len_sl (P := P) ht hu w)
        · split at hm <;> try (first | (simp at hm; done) | omega)
          rename_i _ hu
          simp only [opStep] at h
          split at h <;> try (first | (simp at h; done) | omega)
          rename_i b _ hp
          cases h
          have hv := (evalX_sim hI hx hp).str
          exact fin _ (by rw [hv]; exact len_str (P := P) ht hu w)
        · split at hm <;> try (first | (simp at hm; done) | omega)
          rename_i kt et _ hu
          simp only [opStep] at h
          split at h <;> try (first | (simp at h; done) | omega)
          rename_i b _ hp
          split at h
          · rename_i es hes
            cases h
            exact fin _ (lenMap_sim (P := P) hI ht hu (evalX_sim hI hx hp) hes)
          · cases h
        · split at hm <;> first | (simp at hm; done) | omega
      · cases hm
    | _ => simp [mOp] at hm
  | _ => simp [mOp] at hm
theorem sim_append {o : Oper} {d z bytes : Nat} {sx x : IX} (A : Asks P fi M w s a o (.append d z bytes sx x)) (h : opStep cf s (.append d z bytes sx x) = some s') : Sim P fi o M w s' a := by
  obtain ⟨dst, op, ty, pos, aft, gd⟩ := o
  obtain ⟨hI, hm, hd, hlt⟩ := A
  cases op with
  | call c =>
    obtain ⟨callee, args, argTypes⟩ := c
    cases callee with
    | builtin b =>
      cases b <;> simp [mOp] at hm
      split at hm
      · rename_i y y' t t' ha ht
        simp only [Bool.and_eq_true, beq_iff_eq, decide_eq_true_eq] at hm
        obtain ⟨⟨⟨⟨⟨hs, hx⟩, rfl⟩, hz0⟩, hb0⟩, hm⟩ := hm
        have ha' : args = #[y, y'] := by apply Array.ext'; simpa using ha
        have ht' : argTypes = #[t, t] := by apply Array.ext'; simpa using ht
        subst ha'; subst ht'
        split at hm <;> try (cases hm; done)
        rename_i e hu
        split at hm <;> try (cases hm; done)
        rename_i i hi
        simp only [Bool.and_eq_true, beq_iff_eq] at hm
        obtain ⟨⟨hsz, hby⟩, hm⟩ := hm
        split at hm <;> try (cases hm; done)
        rename_i zv hzv
        simp at hm
        simp only [opStep, Option.bind_eq_some_iff] at h
        obtain ⟨xv, hxv, h⟩ := h
        split at h
        · rename_i o2 z2 ys
          simp only [Option.bind_eq_some_iff] at h
          obtain ⟨⟨v, e'⟩, hv, h⟩ := h
          cases v with
          | sl o1 z1 xs =>
            simp only at h
            split at h
            · rename_i hc
              obtain ⟨rfl, rfl, rfl, hbd⟩ := hc
              cases h
              obtain ⟨M1, hI1, k1, hr, _, hgb, himm⟩ := take_sim hI hs hv
              have hxr : RepP fi M w (.sl false z2 ys) (a.eval y') := by
                have := evalX_sim hI hx hxv
                cases o2 with
                | false => exact this
                | true =>
                  cases x with
                  | t n => simp only [evalX, Option.map_eq_some_iff] at hxv; obtain ⟨q, _, hq⟩ := hxv; cases q <;> simp [degr] at hq
                  | c q => simp only [evalX, Option.some.injEq] at hxv; cases q <;> simp [degr] at hxv
                  | f id => simp [evalX] at hxv
              have hx1 : RepP fi M1 w (.sl false z2 ys) (a.eval y') := hxr.mono k1.ext
              obtain ⟨r, M2, w2, h1, h2, k2⟩ := append_sim (P := P) (ty := ty) hI1 hu hi hzv hsz hby hm hz0 hb0 hr hx1 hbd (hlt d rfl)
              refine ⟨.value r, r, M2, w2, ?_, .inl rfl, by rw [show dst = some d from hd]; exact h2, k1.trans k2⟩
              simp [execOp, resolve, invoke_builtin, builtin, h1]
            · cases h
          | _ => cases h
        · cases h
      · cases hm
    | _ => simp [mOp] at hm
  | _ => simp [mOp] at hm
theorem sim_extract {o : Oper} {d i : Nat} {x : IX} (A : Asks P fi M w s a o (.extract d x i)) (h : opStep cf s (.extract d x i) = some s') : Sim P fi o M w s' a := by
  obtain ⟨dst, op, ty, pos, aft, gd⟩ := o
  obtain ⟨hI, hm, hd, hlt⟩ := A
  cases op <;> simp [mOp] at hm
  rename_i y j
  obtain ⟨hx, rfl⟩ := hm
  simp only [opStep] at h
  split at h
  · rename_i vs hp
    simp only [Option.map_eq_some_iff] at h
    obtain ⟨p, hg, rfl⟩ := h
    obtain ⟨us, hv, hl, hvv⟩ := (evalX_sim hI hx hp).tup
    have hi : i < us.length := by rw [hl]; exact (List.getElem?_eq_some_iff.1 hg).1
    have hr := hvv i p _ hg (List.getElem?_eq_getElem hi)
    refine Sim.pure hI hd (hlt d rfl) (v := us[i]) ?_ hr.repE.repAt
    simp [execOp, hv, Instr.extract, List.getElem?_eq_getElem hi]
  · cases h
theorem sim_maxi {o : Oper} {d : Nat} {xs : List IX} (A : Asks P fi M w s a o (.maxi d xs)) (h : opStep cf s (.maxi d xs) = some s') : Sim P fi o M w s' a := by
  obtain ⟨dst, op, ty, pos, aft, gd⟩ := o
  obtain ⟨hI, hm, hd, hlt⟩ := A
  cases op with
  | call c =>
    obtain ⟨callee, args, argTypes⟩ := c
    cases callee with
    | builtin b =>
      cases b <;> simp [mOp] at hm
      simp only [opStep, Option.bind_eq_some_iff, Option.map_eq_some_iff] at h
      obtain ⟨vs, hvs, r, hr, rfl⟩ := h
      obtain ⟨h1, h2⟩ := evalXs_sim hI hm hvs
      unfold maxL at hr
      split at hr
      · rename_i k n
        cases hr
        obtain ⟨y, ha⟩ : ∃ y, args = #[y] := by
          obtain ⟨l⟩ := args
          match l, h1 with
          | [y], _ => exact ⟨y, rfl⟩
        subst ha
        have hv := (h2 0 _ y rfl rfl).int
        refine Sim.pure hI hd (hlt d rfl) (v := .int k n) ?_ (RepP.repE (.int _ _)).repAt
        simp [execOp, resolve, invoke_builtin, builtin, hv, Builtin.max_]
      · rename_i k n k' n'
        split at hr
        · rename_i hk
          subst hk
          cases hr
          obtain ⟨y, z, ha⟩ : ∃ y z, args = #[y, z] := by
            obtain ⟨l⟩ := args
            match l, h1 with
            | [y, z], _ => exact ⟨y, z, rfl⟩
          subst ha
          have hv := (h2 0 _ y rfl rfl).int
          have hv2 := (h2 1 _ z rfl rfl).int
          refine Sim.pure hI hd (hlt d rfl) (v := .int k (if n' > n then n' else n)) ?_ (RepP.repE (.int _ _)).repAt
          simp [execOp, resolve, invoke_builtin, builtin, hv, hv2, Builtin.max_, Builtin.max2]
        · cases hr
      · cases hr
    | _ => simp [mOp] at hm
  | _ => simp [mOp] at hm
end
end Go.Lw
end

/-! Each operation of the machine (calls apart) does what its Go operation does: structs, arrays, lists that are made. -/
section
namespace Go.Lw
open Go Go.RowKit
section
variable {fi : FI} {M M' : Mem} {w w' : World} {P : Program} {s s' : St} {a : Act} {cf : CallF}
theorem flat_get {z : Nat} (x : PV) (hx : x.cells.length = z) : ∀ (n j : Nat), ((List.replicate n x).flatMap PV.cells)[j]? = if j < n * z then x.cells[j % z]? else none
  | 0, j => by simp
  | n + 1, j => by
    rw [List.replicate_succ, List.flatMap_cons, Nat.add_mul, Nat.one_mul]
    by_cases h : j < z
    · rw [List.getElem?_append_left (by omega), if_pos (by omega), Nat.mod_eq_of_lt h]
    · rw [List.getElem?_append_right (by omega), flat_get x hx n, hx]
      by_cases h2 : j < n * z + z
      · rw [if_pos (by omega), if_pos h2, ← Nat.mod_eq_sub_mod (by omega)]
      · rw [if_neg (by omega), if_neg h2]
theorem flat_len {z : Nat} (x : PV) (hx : x.cells.length = z) (n : Nat) : ((List.replicate n x).flatMap PV.cells).length = n * z := by
  simp [List.length_flatMap, hx]
theorem made_get (zs : Array Value) (n j : Nat) (h : j < n) : (madeCells zs n).toList[j]? = some (zs[j % zs.size]!) := by
  simp [madeCells, h]
theorem made_rep {zero : PV} {zv : Value} {z : Nat} (hc : cOk zero zv = true) (hl : zero.cells.length = z) (ha : argOk zero = true) (hs : zv.cells.size = z) (n : Nat) (mk : Nat → Loc) :
    RepAt fi M w mk (.agg ((List.replicate n zero).flatMap PV.cells)) (.agg (madeCells zv.cells (n * z))) := by
  refine ⟨(madeCells zv.cells (n * z)).toList, by simp, by rw [flat_len zero hl]; simp [size_madeCells], fun j c u hcj huj => ?_⟩
  rw [flat_get zero hl] at hcj
  split at hcj
  · rename_i hj
    rw [made_get _ _ _ hj, hs] at huj
    obtain ⟨vs, e1, e2, e3, _⟩ := (cOk_at (fi := fi) (M := M) (w := w) hc (fun _ => mk j)).cells ha
    have hjz : j % z < z := Nat.mod_lt _ (by rcases z with _ | z; simp at hj; omega)
    refine e3 (j % z) c u hcj ?_
    have : zv.cells.toList[j % z]? = some u := by
      rw [← huj]
      simp only [Array.getElem?_toList]
      rw [getElem!_pos zv.cells (j % z) (by omega)]
      exact Array.getElem?_eq_getElem (by omega)
    rw [e1] at this; exact this
  · cases hcj
theorem sim_mksl {o : Oper} {d z bytes : Nat} {g : Bool} {zero : PV} {l : IX} (A : Asks P fi M w s a o (.mksl d g z bytes zero l)) (h : opStep cf s (.mksl d g z bytes zero l) = some s') : Sim P fi o M w s' a := by
  obtain ⟨dst, op, ty, pos, aft, gd⟩ := o
  obtain ⟨hI, hm, hd, hlt⟩ := A
  cases op <;> simp [mOp] at hm
  rename_i t y y'
  obtain ⟨⟨⟨hx, hx'⟩, hb0⟩, hm⟩ := hm
  split at hm <;> try (cases hm; done)
  rename_i e hu
  split at hm <;> try (cases hm; done)
  rename_i i hi
  simp only [Bool.and_eq_true, beq_iff_eq] at hm
  obtain ⟨⟨hsz, hby⟩, hm⟩ := hm
  split at hm <;> try (cases hm; done)
  rename_i zv hzv
  simp only [Bool.and_eq_true, beq_iff_eq] at hm
  obtain ⟨hzc, hzs⟩ := hm
  simp only [opStep] at h
  split at h
  · rename_i k n hn
    split at h
    · rename_i hc
      obtain ⟨h0, hbd, hzl, hok⟩ := hc
      have v1 := (evalX_sim hI hx hn).int
      have v2 := (evalX_sim hI hx' hn).int
      have hok' : argOk (.agg ((List.replicate n.toNat zero).flatMap PV.cells)) = true := by
        simp only [argOk, PV.cells, List.all_eq_true, List.mem_flatMap, List.mem_replicate] at hok ⊢
        rintro c ⟨x, ⟨_, rfl⟩, hc⟩
        exact hok c hc
      have hb1 : n * 1 ≤ n * (bytes : Int) := Int.mul_le_mul_of_nonneg_left (by omega) h0
      have hmx : (maxBytes : Int) = 140737488355328 := rfl
      have hrun := run_make (P := P) w t e i zv hu hi hzv k k n n h0 (Int.le_refl _) (by rw [hby, Int.mul_comm]; omega) (by omega)
      rw [hsz] at hrun
      cases g with
      | true =>
        cases h
        obtain ⟨M2, hI2, k2, hr2⟩ := hI.newBox true (made_rep (fi := fi) (M := M) (w := w) hzc hzl hok hzs n.toNat Loc.lim) hok' e
        refine ⟨_, .slice (some ⟨w.heap.size, 0, none⟩) n.toNat n.toNat, M2, _, ?_, .inl rfl, ?_, k2⟩
        · simp only [execOp, v1, v2, Sem.run_bind, hrun]; rfl
        · rw [show dst = some d from hd]
          refine hI2.put (hlt d rfl) (RepE.repAt ?_)
          cases (show RepP fi M2 _ (.ptr true _ 0) _ from hr2) with
          | ptr _ _ _ hb => exact RepP.repE (.bs _ _ _ _ _ _ _ hb (.inr rfl) (Nat.le_refl _))
      | false =>
        simp only at h
        split at h <;> try (cases h; done)
        rename_i hfl
        cases h
        obtain ⟨us, u1, u2, u3⟩ := made_rep (fi := fi) (M := M) (w := w) hzc hzl hok hzs n.toNat Loc.lim
        rw [flat_len zero hzl] at u2
        have u1' : (madeCells zv.cells (n.toNat * z)) = us.toArray := Value.agg.inj u1
        rw [u1'] at hrun
        obtain ⟨M1, hI1, k1⟩ := hI.newOwn (hlt d rfl) (xs := List.replicate n.toNat zero) (z := z) (fun e he => by rw [List.eq_of_mem_replicate he]; exact hzl) (fun e he => by rw [List.eq_of_mem_replicate he]; exact hok) us [] (by simpa using u2)
          (fun i e j p he hp => by
            obtain ⟨hi', rfl⟩ := List.getElem?_eq_some_iff.1 he
            rw [List.getElem_replicate] at hp
            have hjz : j < z := by have := (List.getElem?_eq_some_iff.1 hp).1; omega
            have hin : i < n.toNat := by simpa using hi'
            have hlt2 : i * z + j < n.toNat * z := by
              have := Nat.mul_le_mul_right z (show i + 1 ≤ n.toNat by omega)
              rw [Nat.add_mul, Nat.one_mul] at this; omega
            have hg := flat_get zero hzl n.toNat (i * z + j)
            rw [if_pos hlt2, Nat.mul_comm i z, Nat.mul_add_mod, Nat.mod_eq_of_lt hjz, hp] at hg
            rw [Nat.mul_comm i z]
            have hul : z * i + j < us.length := by rw [u2, Nat.mul_comm z i]; exact hlt2
            refine ⟨us[z * i + j], List.getElem?_eq_getElem hul, ?_⟩
            have := u3 (z * i + j) p _ hg (List.getElem?_eq_getElem hul)
            cases zero <;> simp [isFlat] at hfl <;> (cases j <;> simp [PV.cells] at hp; subst hp; exact this))
          n.toNat (by simp) (by simp [u2]) e us.toArray (by simp)
        refine ⟨_, .slice (some ⟨w.heap.size, 0, none⟩) n.toNat n.toNat, M1, _, ?_, .inl rfl, ?_, k1⟩
        · simp only [execOp, v1, v2, Sem.run_bind, hrun]; rfl
        · rw [show dst = some d from hd]
          simpa using hI1
    · cases h
  · cases h
theorem mapM_run {α β : Type} (F : α → Sem β) (G : α → Option β) (hFG : ∀ x y, G x = some y → (F x).run P w = .ok y w) : ∀ {l : List α} {L : List β}, l.mapM G = some L → (l.mapM F).run P w = .ok L w
  | [], L, h => by simp at h; subst h; simp
  | x :: l, L, h => by
    simp only [List.mapM_cons, Option.bind_eq_bind, Option.bind_eq_some_iff] at h
    obtain ⟨y, hy, L', hL, h⟩ := h
    simp at h; subst h
    simp [List.mapM_cons, hFG x y hy, mapM_run F G hFG hL]
theorem mapM_runA {α β : Type} (F : α → Sem β) (G : α → Option β) (hFG : ∀ x y, G x = some y → (F x).run P w = .ok y w) {l : Array α} {L : List β} (h : l.toList.mapM G = some L) : (l.mapM F).run P w = .ok L.toArray w := by
  rw [Array.mapM_eq_mapM_toList, map_eq_pure_bind, Sem.run_bind, mapM_run F G hFG h]; rfl
theorem run_build {t : TypeId} {zv : Value} {i : TypeInfo} {parts : Array (Nat × Value)} {us : List Value} (hi : P.info? t = some i) (hz : i.zero = some zv)
    (h : ∀ place : Nat → Option (Nat × Nat), (∀ j q, placeOf P t j = some q → place j = some q) → Instr.fill place zv.cells parts.toList = some us.toArray)
    (hp : ∃ j q, placeOf P t j = some q) : (Instr.build t parts).run P w = .ok (.agg us.toArray) w := by
  obtain ⟨j, q, hjq⟩ := hp
  unfold placeOf at h hjq
  split at hjq
  · rename_i fs ht
    simp only [Option.bind_eq_some_iff] at hjq
    obtain ⟨L, hL, _⟩ := hjq
    simp only [ht, hL, Option.bind_some] at h
    have h2 := h (L.toArray[·]?) (fun j q hq => by simpa using hq)
    have h3 : (fs.mapM (m := Sem) fun f => do pure (f.offset, ← sizeOf f.type)).run P w = .ok L.toArray w := mapM_runA _ _ (fun f q hq => by
      simp only [Option.map_eq_some_iff] at hq
      obtain ⟨i, hi, rfl⟩ := hq
      simp [sizeOf, typeInfo, hi]) hL
    have h4 : (zeroValue t).run P w = .ok zv w := by simp [zeroValue, typeInfo, hi, hz]
    simp only [Instr.build, Sem.run_bind, h4, Result.andThen, run_underlying ht, h3, h2]
    rfl
  · rename_i m e ht
    simp only [Option.map_eq_some_iff] at hjq
    obtain ⟨z, hsz, _⟩ := hjq
    simp only [ht, hsz, Option.map_some] at h
    have h2 := h (fun i => some (i * z, z)) (fun j q hq => by simpa using hq)
    simp [Instr.build, zeroValue, typeInfo, hi, hz, run_underlying ht, run_sizeOf' hsz, h2]
  · cases hjq
end
end Go.Lw
end

/-! Each operation of the machine (calls apart) does what its Go operation does: parts put together. -/
section
namespace Go.Lw
open Go Go.RowKit
section
variable {fi : FI} {M M' : Mem} {w w' : World} {P : Program} {s s' : St} {a : Act} {cf : CallF}
def evPart (a : Act) (q : Nat × Operand) : Nat × Value := (q.1, a.eval q.2)
theorem evalPs_sim (hI : Inv fi M w s a) {t : TypeId} {place : Nat → Option (Nat × Nat)} (hpl : ∀ j q, placeOf P t j = some q → place j = some q) (mk : Nat → Loc) : ∀ {ps : List (Nat × Nat × IX)} {os : List (Nat × Operand)} {vs : List (Nat × Nat × PV)},
    mParts P fi t ps os = true → evalPs s.env ps = some vs → (∀ p ∈ vs, argOk p.2.2 = true) → PartsRel fi M w place mk vs (os.map (evPart a))
  | [], [], vs, _, h, _ => by simp [evalPs] at h; subst h; exact trivial
  | [], _ :: _, _, hm, _, _ => by simp [mParts] at hm
  | (_, _, _) :: _, [], _, hm, _, _ => by simp [mParts] at hm
  | (off, k, x) :: ps, (i, o) :: os, vs, hm, h, hok => by
    simp only [mParts, Bool.and_eq_true, beq_iff_eq] at hm
    simp only [evalPs, Option.bind_eq_some_iff, Option.map_eq_some_iff] at h
    obtain ⟨v, hv, vs', hvs, rfl⟩ := h
    exact ⟨hpl _ _ hm.1.1, (evalX_sim hI hm.1.2 hv).repAt, hok (off, k, v) (by simp), evalPs_sim hI hpl mk hm.2 hvs (fun p hp => hok p (by simp [hp]))⟩
theorem zeros_sim {t : TypeId} {z : List PV} (h : zerosAre P t z = true) : ∃ i zv, P.info? t = some i ∧ i.zero = some zv ∧ zv.cells.toList.length = z.length ∧
    ∀ (mk : Nat → Loc) (i : Nat) (c : PV) (u : Value), z[i]? = some c → zv.cells.toList[i]? = some u → RepC fi M w (mk i) c u := by
  unfold zerosAre at h
  split at h
  · rename_i zv hz
    simp only [Option.bind_eq_some_iff] at hz
    obtain ⟨i, hi, hzv⟩ := hz
    obtain ⟨h1, h2⟩ := cOks_get h
    exact ⟨i, zv, hi, hzv, h1, fun mk i c u hc hu => cOk1_C (h2 i c u hc hu) _⟩
  · cases h
theorem build_sim {t : TypeId} {z cs : List PV} {vs : List (Nat × Nat × PV)} {parts : Array (Nat × Value)} (hpl : (placeOf P t 0).isSome = true) (hz : zerosAre P t z = true) (hz1 : ∀ c ∈ z, c.one = true) (h : fillAt z vs = some cs) (mk : Nat → Loc)
    (hp : ∀ place : Nat → Option (Nat × Nat), (∀ j q, placeOf P t j = some q → place j = some q) → PartsRel fi M w place mk vs parts.toList) :
    ∃ v, (Instr.build t parts).run P w = .ok v w ∧ RepAt fi M w mk (.agg cs) v := by
  obtain ⟨i, zv, hi, hzv, hl, hzr⟩ := zeros_sim (fi := fi) (M := M) (w := w) hz
  obtain ⟨q, hq⟩ := Option.isSome_iff_exists.1 hpl
  have F := fun (place : Nat → Option (Nat × Nat)) (hpl : ∀ j q, placeOf P t j = some q → place j = some q) => fill_sim vs parts.toList z cs zv.cells.toList h hl (hzr mk) (hp place hpl) hz1
  obtain ⟨us, h1, h2, h3, _⟩ := F (placeOf P t) (fun _ _ h => h)
  refine ⟨.agg us.toArray, run_build hi hzv (fun place hpl => ?_) ⟨0, q, hq⟩, ⟨us, rfl, h2, h3⟩⟩
  obtain ⟨us', g1, _⟩ := F place hpl
  have mono : ∀ (l : List (Nat × Value)) (cells : Array Value) (r : Array Value), Instr.fill (placeOf P t) cells l = some r → Instr.fill place cells l = some r := by
    intro l
    induction l with
    | nil => intro cells r h; exact h
    | cons x l ih =>
      intro cells r h
      obtain ⟨i, v⟩ := x
      simp only [Instr.fill] at h ⊢
      split at h
      · cases h
      · rename_i off size hq
        rw [hpl _ _ hq]
        simp only
        split at h
        · cases h
        · rename_i hc
          rw [if_neg hc]
          exact ih _ _ h
  exact mono _ _ _ (by simpa using h1)
theorem sim_build {o : Oper} {d : Nat} {z : List PV} {ps : List (Nat × Nat × IX)} (A : Asks P fi M w s a o (.build d z ps)) (h : opStep cf s (.build d z ps) = some s') : Sim P fi o M w s' a := by
  obtain ⟨dst, op, ty, pos, aft, gd⟩ := o
  obtain ⟨hI, hm, hd, hlt⟩ := A
  cases op <;> simp only [mOp, Bool.false_eq_true] at hm
  rename_i t parts
  simp only [Bool.and_eq_true] at hm
  obtain ⟨⟨hpl, hz⟩, hps⟩ := hm
  simp only [opStep, Option.bind_eq_some_iff] at h
  obtain ⟨vs, hvs, h⟩ := h
  split at h
  · rename_i hc
    simp only [List.all_eq_true] at hc
    simp only [Option.map_eq_some_iff] at h
    obtain ⟨cs, hcs, rfl⟩ := h
    obtain ⟨v, h1, h2⟩ := build_sim (P := P) (parts := parts.map (evPart a)) hpl hz hc.2 hcs (Loc.env d) (fun place hp => by
      have := evalPs_sim hI hp (Loc.env d) hps hvs hc.1
      simpa using this)
    refine Sim.pure hI hd (hlt d rfl) (v := v) ?_ h2
    have e : (parts.map fun (x : Nat × Operand) => match x with | (i, x) => (i, a.eval x)) = parts.map (evPart a) := rfl
    simp only [execOp, e, Sem.run_bind, h1]; rfl
  · cases h
theorem take_rel (hI : Inv fi M w s a) {x : IX} {o : Operand} (hm : mX fi x o = true) {v : PV} {e : List (Nat × PV)} (h : takeX s.env x = some (v, e)) :
    ∃ f : Loc → Loc, (∀ i, f (.res i) = .res i) ∧ Inv fi (M.rel f) w ⟨e, s.lh, s.gh⟩ a ∧ RepAt fi (M.rel f) w Loc.lim v (a.eval o) := by
  cases x with
  | t n =>
    cases o with
    | tmp m =>
      simp only [mX, beq_iff_eq] at hm; subst hm
      simp only [takeX, Option.map_eq_some_iff, Prod.mk.injEq] at h
      obtain ⟨v', hv, rfl, rfl⟩ := h
      have hn := hI.env n v' hv
      refine ⟨toLim n, fun _ => rfl, hI.rel _ _ (fun t u hu => ?_) (fun _ _ => rfl) (fun _ _ => rfl), hn.2.rel _ (fun i => by simp [toLim])⟩
      rw [get_put] at hu
      by_cases htn : n = t
      · subst htn
        simp at hu; subst hu
        exact ⟨hn.1, (hn.2.degr.rel _).repAt⟩
      · simp [htn] at hu
        exact ⟨(hI.env t u hu).1, (hI.env t u hu).2.rel _ (fun i => by simp [toLim, Ne.symm htn])⟩
    | _ => simp [mX] at hm
  | c p =>
    cases o with
    | const u =>
      simp only [takeX, Option.some.injEq, Prod.mk.injEq] at h
      obtain ⟨rfl, rfl⟩ := h
      exact ⟨id, fun _ => rfl, hI.rel _ _ (fun t u hu => ⟨(hI.env t u hu).1, (hI.env t u hu).2.rel _ (fun _ => rfl)⟩) (fun _ _ => rfl) (fun _ _ => rfl), cOk_at hm _⟩
    | _ => simp [mX] at hm
  | f id' =>
    cases o with
    | func F =>
      simp only [takeX, Option.some.injEq, Prod.mk.injEq] at h
      obtain ⟨rfl, rfl⟩ := h
      refine ⟨id, fun _ => rfl, hI.rel _ _ (fun t u hu => ⟨(hI.env t u hu).1, (hI.env t u hu).2.rel _ (fun _ => rfl)⟩) (fun _ _ => rfl) (fun _ _ => rfl), ?_⟩
      exact ((evalX_sim hI (x := .f id') hm rfl).rel _).repAt
    | _ => simp [mX] at hm
theorem takePs_sim {t : TypeId} : ∀ {ps : List (Nat × Nat × IX)} {os : List (Nat × Operand)} {vs : List (Nat × Nat × PV)} {M : Mem} {s : St} {e : List (Nat × PV)}, Inv fi M w s a →
    mParts P fi t ps os = true → takePs s.env ps = some (vs, e) → (∀ p ∈ vs, argOk p.2.2 = true) →
    ∃ M1, Inv fi M1 w ⟨e, s.lh, s.gh⟩ a ∧ Kp M w M1 w ∧ (∀ (mk : Nat → Nat) p v, RepAt fi M w (fun i => .res (mk i)) p v → RepAt fi M1 w (fun i => .res (mk i)) p v) ∧
      ∀ place : Nat → Option (Nat × Nat), (∀ j q, placeOf P t j = some q → place j = some q) → PartsRel fi M1 w place Loc.res vs (os.map (evPart a))
  | [], [], vs, M, s, e, hI, _, h, _ => by
    simp [takePs] at h
    obtain ⟨rfl, rfl⟩ := h
    exact ⟨M, hI, Kp.refl M w, fun _ _ _ h => h, fun _ _ => trivial⟩
  | [], _ :: _, _, _, _, _, _, hm, _, _ => by simp [mParts] at hm
  | (_, _, _) :: _, [], _, _, _, _, _, hm, _, _ => by simp [mParts] at hm
  | (off, k, x) :: ps, (i, o) :: os, vs, M, s, e, hI, hm, h, hok => by
    simp only [mParts, Bool.and_eq_true, beq_iff_eq] at hm
    simp only [takePs, Option.bind_eq_some_iff, Option.map_eq_some_iff, Prod.mk.injEq, Prod.exists] at h
    obtain ⟨v, e1, hv, vs', e2, hvs, rfl, rfl⟩ := h
    obtain ⟨f, hf, hI1, hr1⟩ := take_rel hI hm.1.2 hv
    have hI2 := hI1.rel (fromLim fun j => .res (off + j)) e1 (fun t u hu => ⟨(hI1.env t u hu).1, (hI1.env t u hu).2.rel _ (fun i => rfl)⟩) (fun _ _ => rfl) (fun _ _ => rfl)
    have hr2 := hr1.rel (mk' := fun j => .res (off + j)) (fromLim fun j => .res (off + j)) (fun i => rfl)
    obtain ⟨M3, hI3, k3, p3, r3⟩ := takePs_sim (t := t) hI2 hm.2 hvs (fun p hp => hok p (by simp [hp]))
    refine ⟨M3, hI3, ((Kp.rel M w f).trans (Kp.rel _ w _)).trans k3, fun mk p u hu => p3 mk p u ((hu.rel f (fun i => hf _)).rel _ (fun i => rfl)), fun place hpl => ?_⟩
    exact ⟨hpl _ _ hm.1.1, p3 (fun j => off + j) _ _ hr2, hok (off, k, v) (by simp), r3 place hpl⟩
def fromRes (mk : Nat → Loc) : Loc → Loc
  | .res i => mk i
  | l => l
theorem sim_buildT {o : Oper} {d : Nat} {z : List PV} {ps : List (Nat × Nat × IX)} (A : Asks P fi M w s a o (.buildT d z ps)) (h : opStep cf s (.buildT d z ps) = some s') : Sim P fi o M w s' a := by
  obtain ⟨dst, op, ty, pos, aft, gd⟩ := o
  obtain ⟨hI, hm, hd, hlt⟩ := A
  cases op <;> simp only [mOp, Bool.false_eq_true] at hm
  rename_i t parts
  simp only [Bool.and_eq_true] at hm
  obtain ⟨⟨hpl, hz⟩, hps⟩ := hm
  simp only [opStep, Option.bind_eq_some_iff] at h
  obtain ⟨⟨vs, e⟩, hvs, h⟩ := h
  simp only at h
  split at h
  · rename_i hc
    simp only [List.all_eq_true] at hc
    simp only [Option.map_eq_some_iff] at h
    obtain ⟨cs, hcs, rfl⟩ := h
    obtain ⟨M1, hI1, k1, _, r1⟩ := takePs_sim (P := P) hI hps hvs hc.1
    obtain ⟨v, h1, h2⟩ := build_sim (P := P) (parts := parts.map (evPart a)) hpl hz hc.2 hcs Loc.res (fun place hp => by simpa using r1 place hp)
    have hI2 := hI1.rel (fromRes (Loc.env d)) e (fun t u hu => ⟨(hI1.env t u hu).1, (hI1.env t u hu).2.rel _ (fun i => rfl)⟩) (fun _ _ => rfl) (fun _ _ => rfl)
    have h3 := h2.rel (mk' := Loc.env d) (fromRes (Loc.env d)) (fun i => rfl)
    refine ⟨.value v, v, _, w, ?_, .inl rfl, by rw [show dst = some d from hd]; exact Inv.put (s := ⟨e, s.lh, s.gh⟩) hI2 (hlt d rfl) h3, k1.trans (Kp.rel _ w _)⟩
    have e : (parts.map fun (x : Nat × Operand) => match x with | (i, x) => (i, a.eval x)) = parts.map (evPart a) := rfl
    simp only [execOp, e, Sem.run_bind, h1]; rfl
  · cases h
theorem sim_buildSl {o : Oper} {d z : Nat} {els : List IX} (A : Asks P fi M w s a o (.buildSl d z els)) (h : opStep cf s (.buildSl d z els) = some s') : Sim P fi o M w s' a := by
  obtain ⟨dst, op, ty, pos, aft, gd⟩ := o
  obtain ⟨hI, hm, hd, hlt⟩ := A
  cases op <;> simp only [mOp, Bool.false_eq_true] at hm
  rename_i t len parts
  simp only [Bool.and_eq_true, beq_iff_eq, decide_eq_true_eq] at hm
  obtain ⟨⟨⟨⟨⟨⟨he, hz0⟩, hlen⟩, hbd⟩, hidx⟩, hmx⟩, hzs⟩ := hm
  obtain ⟨e, ht, hsz⟩ := elem_of he
  rw [ht] at hzs
  simp only [Option.isSome_iff_exists, Option.bind_eq_some_iff] at hzs
  obtain ⟨zv, i, hi, hzv⟩ := hzs
  simp only [opStep, Option.bind_eq_some_iff] at h
  obtain ⟨vs, hvs, h⟩ := h
  split at h
  · rename_i hc
    simp only [List.all_eq_true, Bool.and_eq_true, beq_iff_eq] at hc
    cases h
    obtain ⟨h1, h2⟩ := evalXs_sim hI hmx hvs
    have hvl : vs.length = len := by rw [← h1, List.length_map, ← List.length_map (f := Prod.fst) (as := parts.toList), hidx, List.length_range']
    generalize hrest : ((Array.range (len * z)).map ((if len * z = 0 then #[] else zv.cells)[· % (if len * z = 0 then (#[] : Array Value) else zv.cells).size]!)).toList = rest
    have hrl : rest.length = vs.length * z := by rw [← hrest]; simp [hvl]
    obtain ⟨us, f1, f2, f3⟩ := fill_row (fi := fi) (M := M) (w := w) (z := z) vs 0 (parts.toList.map (evPart a)) [] rest (by simp) hrl hc (by
      rw [List.map_map, hvl, ← hidx]; rfl) (fun i p y hp hy => by
      simp only [List.getElem?_map, Option.map_eq_some_iff] at hy
      obtain ⟨q, hq, rfl⟩ := hy
      have := h2 i p q.2 hp (by simp [hq])
      exact this.repP (by simpa [argOk] using (hc p (List.mem_of_getElem? hp)).1))
    simp only [List.nil_append] at f1
    obtain ⟨M1, hI1, k1⟩ := hI.newOwn (hlt d rfl) (fun e he => (hc e he).2) (fun e he => (hc e he).1) us [] f2 f3 vs.length (Nat.le_refl _) (by simp [f2]) e us.toArray (by simp)
    refine ⟨_, .slice (some ⟨w.heap.size, 0, none⟩) vs.length vs.length, M1, _, ?_, .inl rfl, by rw [show dst = some d from hd]; exact hI1, k1⟩
    have e1 : (parts.map fun (x : Nat × Operand) => match x with | (i, x) => (i, a.eval x)) = parts.map (evPart a) := rfl
    have hbd' : ¬ (len * z > 2 ^ 24) := by omega
    have f1' : Instr.fill (fun i => some (i * z, z)) ((Array.range (len * z)).map ((if len * z = 0 then #[] else zv.cells)[· % (if len * z = 0 then (#[] : Array Value) else zv.cells).size]!)) (parts.map (evPart a)).toList = some us.toArray := by
      rw [← f1, ← hrest, Array.toArray_toList]; congr 1; simp
    have hrun : (Instr.buildSlice t len (parts.map (evPart a))).run P w = .ok (.slice (some ⟨w.heap.size, 0, none⟩) len len) (w.alloc (.cells us.toArray e)) := by
      have hzv' : (zeroValue e).run P w = .ok zv w := by simp [zeroValue, typeInfo, hi, hzv]
      by_cases h0 : len * z = 0
      · simp only [if_pos h0] at f1'
        simp only [Instr.buildSlice, Sem.run_bind, run_underlying ht, run_sizeOf' hsz, Result.andThen_ok, if_neg hbd', if_pos h0, Sem.run_pure, f1']
        simp [newRow]
      · simp only [if_neg h0] at f1'
        simp only [Instr.buildSlice, Sem.run_bind, run_underlying ht, run_sizeOf' hsz, Result.andThen_ok, if_neg hbd', if_neg h0, hzv', Sem.run_pure, f1']
        simp [newRow]
    simp only [execOp, e1, Sem.run_bind, hrun, hvl]; rfl
  · cases h
end
end Go.Lw
end

/-! Stacks: lists that are cut and grow in place. -/
section
namespace Go.Lw
open Go Go.RowKit
section
variable {fi : FI} {M M' M2 : Mem} {w w' W : World} {P : Program} {s s' : St} {a : Act} {cf : CallF} {xl : Loc → Prop} {xb : Nat → Prop}
def updSt (M : Mem) (b : Nat) (t : Nat × Nat × Nat) : Nat → Nat × Nat × Nat := fun i => if i = b then t else M.st i
theorem Good.stk (g : Good M w M2 W xl xb) (hst : M2.st = M.st) (b : Nat) (t : Nat × Nat × Nat) (hgen : b < M.gb.length → (M.st b).1 < t.1) :
    Good M w { M2 with st := updSt M b t } W (fun l => xl l ∨ l = Loc.gh b 0) xb where
  ext := ⟨g.ext.gb, g.ext.imm, g.ext.cell, fun i hi => by
    by_cases h : i = b
    · subst h
      simp only [updSt, if_true]
      have := hgen hi
      exact ⟨by omega, fun e => by omega⟩
    · have e : updSt M b t i = M.st i := if_neg h
      show (M.st i).1 ≤ (updSt M b t i).1 ∧ ((updSt M b t i).1 = (M.st i).1 → updSt M b t i = M.st i)
      rw [e]
      exact ⟨Nat.le_refl _, fun _ => rfl⟩⟩
  size := g.size
  lb := g.lb
  own := fun b l h hl => g.own b l h (fun hx => hl (.inl hx))
  box := g.box
  st := fun i hi => by
    have : i ≠ b := fun e => hi (.inr (by rw [e]))
    simp only [updSt, if_neg this]
theorem Kp.stk {xl' : Loc → Prop} {xb' : Nat → Prop} {f : Nat → Nat × Nat × Nat} (k : Kp M w M2 W) (g : Good M w { M2 with st := f } W xl' xb') : Kp M w { M2 with st := f } W :=
  ⟨k.os, k.tape, k.output, k.size, g.ext, k.block, k.lbn, k.gbn, k.ownn, k.immn⟩
theorem flat_cell {p : PV} {u : Value} (h : RepP fi M w p u) (hf : isFlat p = true) : u.oneCell' = true := by
  cases h <;> first | rfl | (simp [isFlat] at hf)
theorem els_rep (hI : Inv fi M w s a) {xv : PV} {ys : List PV} {v : Value} (hx : RepE fi M w xv v) (hsl : ∀ z xs, xv ≠ .sl true z xs) (he : elsOf s.gh xv = some ys) (hf : ys.all isFlat = true) :
    ∃ (A : Option Addr) (c b o : Nat) (us : List Value), v = .slice A ys.length c ∧ ys.length ≤ c ∧ us.length = ys.length ∧ (ys = [] ∨ A = some ⟨b, o, none⟩) ∧
      (∀ (j : Nat) (u : Value), us[j]? = some u → w.cell? ⟨b, o + j, none⟩ = some u ∧ u.oneCell' = true) ∧
      (∀ (j : Nat) (y : PV), ys[j]? = some y → ∃ u, us[j]? = some u ∧ RepP fi M w y u) := by
  unfold elsOf at he
  split at he
  · rename_i ow ys'
    cases he
    cases ow with
    | true => exact absurd rfl (hsl 1 ys)
    | false =>
      obtain ⟨A, c, b, o, us, rfl, h1, h2, h3, h4, h5, h6, h7⟩ := sl_cells (z := 1) (by omega) (show RepP fi M w (.sl false 1 ys) v from hx)
      rw [Nat.mul_one] at h2
      refine ⟨A, c, b, o, us, rfl, h1, h2, h3, fun j u hu => (h6 j u hu).2, fun j y hy => ?_⟩
      have hfy := List.all_eq_true.1 hf y (List.mem_of_getElem? hy)
      have hc : y.cells[0]? = some y := by cases y <;> first | rfl | (simp [isFlat] at hfy)
      obtain ⟨u, hu, hr⟩ := h7 j y 0 y hy hc
      exact ⟨u, by simpa using hu, hr⟩
  · rename_i b gen n
    split at he
    · rename_i g xs hgh
      split at he
      · rename_i hc
        obtain ⟨rfl, hn⟩ := hc
        cases he
        cases (show RepP fi M w (.stk b g n) v from hx) with
        | stk _ _ _ blk c hb hg hA hcn =>
          obtain ⟨h1, h2, h3, h4, h5, cs, T, h6, h7, h8, h9⟩ : RepStk fi M w b M.gb[b] g xs := hI.gh b _ _ hgh (List.getElem?_eq_getElem hb)
          obtain ⟨rfl, hcc⟩ := hA h2.symm
          have hl : (xs.take n).length = n := by simp; omega
          refine ⟨some ⟨(M.st b).2.1, 0, none⟩, c, (M.st b).2.1, 0, cs.toList.take n, by rw [hl], by rw [hl]; exact hcn, by simp; omega, .inr rfl, fun j u hu => ?_, fun j y hy => ?_⟩
          · rw [List.getElem?_take] at hu
            split at hu
            · rename_i hj
              rw [Nat.zero_add, cell_of_row w (M.st b).2.1 j cs T (0, 0) h6]
              have hu' : cs[j]? = some u := by simpa using hu
              refine ⟨hu', ?_⟩
              have hjx : j < xs.length := by omega
              obtain ⟨u2, e2, r2⟩ := h9 j xs[j] (List.getElem?_eq_getElem hjx)
              rw [hu'] at e2
              cases e2
              exact flat_cell r2 (h5 _ (List.getElem_mem hjx))
            · cases hu
          · rw [List.getElem?_take] at hy
            split at hy
            · rename_i hj
              obtain ⟨u, hu, hr⟩ := h9 j y hy
              exact ⟨u, by rw [List.getElem?_take, if_pos hj]; simpa using hu, hr⟩
            · cases hy
      · cases he
    · cases he
  · rename_i b gen off n
    split at he
    · rename_i g xs hgh
      split at he
      · rename_i hc
        obtain ⟨rfl, hn⟩ := hc
        cases he
        cases (show RepP fi M w (.sub b g off n) v from hx) with
        | sub _ _ _ _ blk c A hb hg hA hcn hAd =>
          obtain ⟨h1, h2, h3, h4, h5, cs, T, h6, h7, h8, h9⟩ : RepStk fi M w b M.gb[b] g xs := hI.gh b _ _ hgh (List.getElem?_eq_getElem hb)
          obtain ⟨rfl, hcc⟩ := hA h2.symm
          have hl : ((xs.drop off).take n).length = n := by simp; omega
          refine ⟨A, c, (M.st b).2.1, off, (cs.toList.drop off).take n, by rw [hl], by rw [hl]; exact hcn, by simp; omega, ?_, fun j u hu => ?_, fun j y hy => ?_⟩
          · rcases hAd with h | h
            · left; subst h; simp
            · exact .inr h
          · rw [List.getElem?_take] at hu
            split at hu
            · rename_i hj
              rw [List.getElem?_drop] at hu
              rw [cell_of_row w (M.st b).2.1 (off + j) cs T (0, 0) h6]
              have hu' : cs[off + j]? = some u := by simpa using hu
              refine ⟨hu', ?_⟩
              have hjx : off + j < xs.length := by omega
              obtain ⟨u2, e2, r2⟩ := h9 (off + j) xs[off + j] (List.getElem?_eq_getElem hjx)
              rw [hu'] at e2
              cases e2
              exact flat_cell r2 (h5 _ (List.getElem_mem hjx))
            · cases hu
          · rw [List.getElem?_take] at hy
            split at hy
            · rename_i hj
              rw [List.getElem?_drop] at hy
              obtain ⟨u, hu, hr⟩ := h9 (off + j) y hy
              exact ⟨u, by rw [List.getElem?_take, if_pos hj, List.getElem?_drop]; simpa using hu, hr⟩
            · cases hy
      · cases he
    · cases he
  · cases he
    cases (show RepP fi M w .nils v from hx) with
    | nils => exact ⟨none, 0, 0, 0, [], rfl, Nat.le_refl _, rfl, .inl rfl, fun j u hu => by simp at hu, fun j y hy => by simp at hy⟩
  · cases he
theorem Inv.newStk (hI : Inv fi M w s a) {d : Nat} (hd : d < a.tmps.size) {xs : List PV} (hf : ∀ x ∈ xs, isFlat x = true) (us rest : List Value) (hul : us.length = xs.length)
    (hrep : ∀ (j : Nat) (x : PV), xs[j]? = some x → ∃ u, us[j]? = some u ∧ RepP fi M w x u) (c : Nat) (hc : xs.length ≤ c) (hcap : c ≤ us.length + rest.length) (T : TypeId) (O : Array Value) (hO : O = (us ++ rest).toArray) :
    ∃ M', Inv fi M' (w.alloc (.cells O T)) ((⟨s.env, s.lh, s.gh ++ [.stk 0 xs]⟩ : St).put d (.stk s.gh.length 0 xs.length)) (a.put (some d) (.slice (some ⟨w.heap.size, 0, none⟩) xs.length c)) ∧ Kp M w M' (w.alloc (.cells O T)) := by
  subst hO
  have hni : ∀ k, ¬ M.imm w.heap.size k := fun k hk => absurd (hI.immlt _ k hk) (by omega)
  have hnl : w.heap.size ∉ M.lb ++ M.gb := by
    rw [List.mem_append]
    rintro (hk | hk)
    · exact absurd (lb_lt hI _ hk) (by omega)
    · exact absurd (hI.gblt _ hk) (by omega)
  let M2 : Mem := { M with gb := M.gb ++ [w.heap.size], own := fun b => if b = w.heap.size then some (Loc.gh s.gh.length 0) else M.own b }
  obtain ⟨g2, k2⟩ := Good.alloc hI (.cells (us ++ rest).toArray T) M2 [] [w.heap.size] (by simp [M2]) rfl (by simp) (by simp) (fun _ => False) (by simp [M2]) (fun b hb => by simp [M2, hb])
  generalize hW : w.alloc (.cells (us ++ rest).toArray T) = W at *
  have g1 := g2.stk rfl s.gh.length (0, w.heap.size, us.length + rest.length) (fun h => by rw [hI.gbl] at h; omega)
  have k1 := k2.stk g1
  generalize hM1 : ({ M2 with st := updSt M s.gh.length (0, w.heap.size, us.length + rest.length) } : Mem) = M1 at *
  have e_lb : M1.lb = M.lb := by rw [← hM1]
  have e_gb : M1.gb = M.gb ++ [w.heap.size] := by rw [← hM1]
  have e_st : M1.st s.gh.length = (0, w.heap.size, us.length + rest.length) := by rw [← hM1]; simp [updSt]
  have e_own : M1.own w.heap.size = some (Loc.gh s.gh.length 0) := by rw [← hM1]; simp [M2]
  have e_imm : M1.imm = M.imm := by rw [← hM1]
  have hsz : W.heap.size = w.heap.size + 1 := by rw [← hW, size_alloc']
  have hI1 : Inv fi M1 W ⟨s.env, s.lh, s.gh ++ [.stk 0 xs]⟩ a := by
    refine ⟨fun t u hu => ⟨(hI.env t u hu).1, (hI.env t u hu).2.good g1 (by simp)⟩, hI.defers, by rw [e_lb]; exact hI.lbl, by rw [e_gb]; simp [hI.gbl], ?_, fun i cs blk h1 h2 => ?_, fun i o blk h1 h2 => ?_, g1.ext.gl hI.gl, fun b k hb => ?_, fun b l hb => ?_, fun b hb => ?_⟩
    · rw [e_lb, e_gb, ← List.append_assoc]; exact nodup_snoc hI.nodup hnl
    · rw [e_lb] at h2; exact (hI.lh i cs blk h1 h2).good g1 (by simp) (by simp)
    · rw [e_gb] at h2
      by_cases hlt : i < s.gh.length
      · rw [List.getElem?_append_left hlt] at h1
        rw [List.getElem?_append_left (by rw [hI.gbl]; exact hlt)] at h2
        exact (hI.gh i o blk h1 h2).good g1 (by simp) (fun j h => by
          rcases h with h | h
          · exact h
          · injection h with h3 h4; omega)
      · have hil := (List.getElem?_eq_some_iff.1 h1).1
        simp at hil
        obtain rfl : i = s.gh.length := by omega
        simp at h1
        subst h1
        rw [List.getElem?_append_right (by rw [hI.gbl]; exact Nat.le_refl _), hI.gbl] at h2
        simp at h2; subst h2
        refine ⟨e_own, by rw [e_st], by rw [e_st]; exact e_own, by rw [e_st, e_imm]; exact hni, hf, (us ++ rest).toArray, T, by rw [e_st, ← hW]; exact heap_alloc_new w _, by rw [e_st]; simp, by simp; omega, fun j x hj => ?_⟩
        obtain ⟨u, hu, hr⟩ := hrep j x hj
        refine ⟨u, ?_, hr.mono g1.ext⟩
        simp only [List.getElem?_toArray]
        rw [List.getElem?_append_left (List.getElem?_eq_some_iff.1 hu).1]; exact hu
    · rw [e_imm] at hb; exact Nat.lt_of_lt_of_le (hI.immlt b k hb) k1.size
    · by_cases hbe : b = w.heap.size
      · subst hbe; omega
      · have : M.own b = some l := by rw [← hM1] at hb; simpa [M2, hbe] using hb
        exact Nat.lt_of_lt_of_le (hI.ownlt b l this) k1.size
    · rw [e_gb, List.mem_append, List.mem_singleton] at hb
      rcases hb with hb | rfl
      · exact Nat.lt_of_lt_of_le (hI.gblt b hb) k1.size
      · omega
  refine ⟨M1, hI1.put hd (RepP.repE (.stk _ _ _ _ c ?_ (Nat.zero_le _) (fun _ => ?_) hc)).repAt, k1⟩
  · rw [e_gb]; simp [hI.gbl]
  · rw [e_st]; exact ⟨rfl, hcap⟩
theorem Inv.setStk (hI : Inv fi M w s a) {b g0 : Nat} {ys zs : List PV} (hgh : s.gh[b]? = some (.stk g0 ys)) (hg : Good M w M2 W xl xb) (hst : M2.st = M.st) (hlb : M2.lb = M.lb) (hgb : M2.gb = M.gb) (hxl : ∀ l, xl l → l = Loc.gh b 0) (hxb : ∀ k, ¬ xb k)
    {blk cap : Nat} (hk : Kp M w M2 W) (ho : ∀ k, M.own k = some (Loc.gh b 0) → M2.own k = some (Loc.gh b 0)) (hown : M2.own blk = some (Loc.gh b 0)) (hown2 : ∀ k l, M2.own k = some l → k < W.heap.size) (himm : ∀ k, ¬ M2.imm blk k) (himm2 : ∀ k j, M2.imm k j → k < W.heap.size)
    (hf : ∀ x ∈ zs, isFlat x = true) {cs : Array Value} {T : TypeId} (hh : W.heap[blk]? = some (.cells cs T (0, 0))) (hcs : cs.size = cap) (hlen : zs.length ≤ cs.size)
    (hr : ∀ (j : Nat) (x : PV), zs[j]? = some x → ∃ u, cs[j]? = some u ∧ ∀ (M' : Mem) (w' : World), RepP fi M' w' x u) {d n c : Nat} (hd : d < a.tmps.size) (hnc : n ≤ c) (hcc : c ≤ cap) :
    ∃ M', Inv fi M' W ((⟨s.env, s.lh, s.gh.set b (.stk (g0 + 1) zs)⟩ : St).put d (.stk b (g0 + 1) n)) (a.put (some d) (.slice (some ⟨blk, 0, none⟩) n c)) ∧ Kp M w M' W := by
  have hbl : b < s.gh.length := (List.getElem?_eq_some_iff.1 hgh).1
  have hbg : b < M.gb.length := by rw [hI.gbl]; exact hbl
  obtain ⟨o1, o2, _⟩ : RepStk fi M w b M.gb[b] g0 ys := hI.gh b _ _ hgh (List.getElem?_eq_getElem hbg)
  have g1 := hg.stk hst b (g0 + 1, blk, cap) (fun _ => by rw [o2]; exact Nat.lt_succ_self _)
  have k1 := hk.stk g1
  generalize hM1 : ({ M2 with st := updSt M b (g0 + 1, blk, cap) } : Mem) = M1 at *
  have e_lb : M1.lb = M.lb := by rw [← hM1]; exact hlb
  have e_gb : M1.gb = M.gb := by rw [← hM1]; exact hgb
  have e_st : M1.st b = (g0 + 1, blk, cap) := by rw [← hM1]; simp [updSt]
  have e_own : M1.own = M2.own := by rw [← hM1]
  have e_imm : M1.imm = M2.imm := by rw [← hM1]
  have hxg : ∀ i j, i ≠ b → ¬ (xl (Loc.gh i j) ∨ Loc.gh i j = Loc.gh b 0) := fun i j hne h => by
    have : Loc.gh i j = Loc.gh b 0 := h.elim (hxl _) id
    injection this with h1 h2; exact hne h1
  have hI1 : Inv fi M1 W ⟨s.env, s.lh, s.gh.set b (.stk (g0 + 1) zs)⟩ a := by
    refine ⟨fun t u hu => ⟨(hI.env t u hu).1, (hI.env t u hu).2.good g1 (fun i h => ?_)⟩, hI.defers, by rw [e_lb]; exact hI.lbl, by rw [e_gb]; simp [hI.gbl], by rw [e_lb, e_gb]; exact hI.nodup, fun i cs blk h1 h2 => ?_, fun i o blk' h1 h2 => ?_, g1.ext.gl hI.gl, fun k j hb => ?_, fun k l hb => ?_, fun k hb => ?_⟩
    · have : Loc.env t i = Loc.gh b 0 := h.elim (hxl _) id
      cases this
    · rw [e_lb] at h2
      refine (hI.lh i cs blk h1 h2).good g1 (hxb _) (fun j h => ?_)
      have : Loc.lh i j = Loc.gh b 0 := h.elim (hxl _) id
      cases this
    · rw [e_gb] at h2
      simp only at h1
      rw [List.getElem?_set] at h1
      by_cases hbi : b = i
      · subst hbi
        rw [if_pos rfl, if_pos hbl] at h1
        cases h1
        have eb : M.gb[b] = blk' := by rw [List.getElem?_eq_getElem hbg] at h2; exact Option.some.inj h2
        rw [eb] at o1
        refine ⟨by rw [e_own]; exact ho _ o1, by rw [e_st], by rw [e_st, e_own]; exact hown, by rw [e_st, e_imm]; exact himm, hf, cs, T, by rw [e_st]; exact hh, by rw [e_st]; exact hcs, hlen, fun j x hj => ?_⟩
        obtain ⟨u, hu, hru⟩ := hr j x hj
        exact ⟨u, hu, hru _ _⟩
      · rw [if_neg hbi] at h1
        exact (hI.gh i o blk' h1 h2).good g1 (hxb _) (fun j => hxg i j (Ne.symm hbi))
    · rw [e_imm] at hb; exact himm2 k j hb
    · rw [e_own] at hb; exact hown2 k l hb
    · rw [e_gb] at hb; exact Nat.lt_of_lt_of_le (hI.gblt k hb) k1.size
  refine ⟨M1, hI1.put hd (RepP.repE (.stk b (g0 + 1) n blk c ?_ ?_ (fun _ => ?_) hnc)).repAt, k1⟩
  · rw [e_gb]; exact hbg
  · rw [e_st]; exact Nat.le_refl _
  · rw [e_st]; exact ⟨rfl, hcc⟩
theorem flat_any {p : PV} {u : Value} (h : RepP fi M w p u) (hf : isFlat p = true) : ∀ (M' : Mem) (w' : World), RepP fi M' w' p u := by
  intro M' w'
  cases h <;> first | exact .int _ _ | exact .bool _ | (simp [isFlat] at hf)
theorem Good.refl (M : Mem) (w : World) : Good M w M w (fun _ => False) (fun _ => False) :=
  ⟨Ext.refl M w, Nat.le_refl _, fun _ _ h => h, fun _ _ h _ => ⟨h, rfl, fun _ h => h, id, id⟩, fun _ _ _ h => ⟨rfl, fun _ h => h, h⟩, fun _ _ => rfl⟩
theorem appendK_sim (hI : Inv fi M w s a) {t ty e : TypeId} {i : TypeInfo} {zv : Value} {bytes : Nat} (ht : P.underlying t = some (.slice e)) (hi : P.info? e = some i) (hzv : i.zero = some zv)
    (hsz : i.size = 1) (hby : i.bytes = bytes) (hzs : zv.cells.size = 1) (hb0 : 0 < bytes) {b gen n : Nat} {xs ys : List PV} {xv : PV} {v x : Value} (hv : RepP fi M w (.stk b gen n) v) (hgh : s.gh[b]? = some (.stk gen xs)) (hn : n ≤ xs.length)
    (hx : RepE fi M w xv x) (hsl : ∀ z xs, xv ≠ .sl true z xs) (he : elsOf s.gh xv = some ys) (hf : ys.all isFlat = true) (hap : apart b xv = true) (hbd : (n + ys.length) * bytes ≤ maxBytes) {d : Nat} (hd : d < a.tmps.size) :
    ∃ r M' w', (Builtin.append_ #[t, t] ty #[v, x]).run P w = .ok r w' ∧
      Inv fi M' w' ((⟨s.env, s.lh, s.gh.set b (.stk (gen + 1) (xs.take n ++ ys))⟩ : St).put d (.stk b (gen + 1) (n + ys.length))) (a.put (some d) r) ∧ Kp M w M' w' := by
  subst hby
  obtain ⟨A2, c2, b2, o2, us2, rfl, hc2, hul2, hA2, huy, hry⟩ := els_rep hI hx hsl he hf
  cases hv with
  | stk _ _ _ blk c hb hg hA hcn =>
  obtain ⟨h1, h2, h3, h4, h5, cs, T, h6, h7, h8, h9⟩ : RepStk fi M w b M.gb[b] gen xs := hI.gh b _ _ hgh (List.getElem?_eq_getElem hb)
  obtain ⟨rfl, hcc⟩ := hA h2.symm
  have hff : ∀ x ∈ xs.take n ++ ys, isFlat x = true := fun x hx => by
    rcases List.mem_append.1 hx with h | h
    · exact h5 x (List.mem_of_mem_take h)
    · exact List.all_eq_true.1 hf x h
  have htl : (xs.take n).length = n := by simp; omega
  have hlen : (xs.take n ++ ys).length = n + ys.length := by rw [List.length_append, htl]
  by_cases hy : ys = []
  · subst hy
    have hrun := run_append_zero (P := P) (ty := ty) ht hi (some ⟨(M.st b).2.1, 0, none⟩) A2 n c c2 hcn w
    obtain ⟨M', r1, r2⟩ := hI.setStk hgh (Good.refl M w) rfl rfl rfl (fun _ h => h.elim) (fun _ h => h) (Kp.refl M w) (fun _ h => h) h3 (fun k l h => hI.ownlt k l h) h4 (fun k j h => hI.immlt k j h) hff h6 h7 (by rw [hlen, h7]; simp only [List.length_nil]; omega) (fun j x hj => by
      rw [List.append_nil, List.getElem?_take] at hj
      split at hj
      · obtain ⟨u, hu, hr⟩ := h9 j x hj
        exact ⟨u, hu, flat_any hr (h5 x (List.mem_of_getElem? hj))⟩
      · cases hj) hd (n := n) hcn hcc
    exact ⟨_, M', w, hrun, r1, r2⟩
  have hA2' := hA2.resolve_left hy
  subst hA2'
  have hm0 : 0 < ys.length := List.length_pos_iff.2 hy
  have hneed : (n + ys.length) * i.bytes ≤ 140737488355328 := hbd
  have h63 : ((n + ys.length : Nat) : Int) ≤ 9223372036854775807 := by
    have : (n + ys.length) * 1 ≤ (n + ys.length) * i.bytes := Nat.mul_le_mul_left _ hb0
    omega
  have hnews : ∀ (j : Nat) (u : Value), us2[j]? = some u → w.cell? ((⟨b2, o2, none⟩ : Addr).add j) = some u := fun j u hu => by rw [add_none]; exact (huy j u hu).1
  have hcell : ∀ j, w.cell? ⟨(M.st b).2.1, j, none⟩ = cs[j]? := fun j => cell_of_row w _ j cs T (0, 0) h6
  by_cases hroom : n + ys.length ≤ c
  · have hrun := run_append_in (P := P) (ty := ty) ht hi (M.st b).2.1 0 n c cs h6 ⟨b2, o2, none⟩ ys.length c2 us2 (by rw [hsz, Nat.mul_one]; exact hul2) hnews (fun u hu => by
        obtain ⟨j, hj, hx⟩ := List.mem_iff_getElem.1 hu
        exact (huy j u (by rw [List.getElem?_eq_getElem hj, hx])).2) hroom (by rw [hsz, hul2, h7]; omega)
    rw [hsz, Nat.mul_one, Nat.zero_add] at hrun
    generalize hcs2 : (cs.toList.take n ++ us2 ++ cs.toList.drop (n + us2.length)) = cs2 at hrun
    have hfit : n + us2.length ≤ cs.toList.length := by simp; omega
    have hget : ∀ k, cs2[k]? = if k < n then cs[k]? else if k < n + us2.length then us2[k - n]? else cs[k]? := fun k => by
      rw [← hcs2, splice_get _ _ _ _ hfit]; simp
    have hlen2 : cs2.length = cs.size := by rw [← hcs2, splice_len _ _ _ hfit]; simp
    have g1 : Good M w M (w.setRow (M.st b).2.1 cs2.toArray) (fun l => l = Loc.gh b 0) (fun _ => False) :=
      Good.setRow (M := M) (M' := M) h6 rfl rfl (fun _ => False) (by simp) (fun k hk => absurd hk (h4 k)) (fun _ _ => rfl) _ _ (fun l h => by rw [h3] at h; cases h; rfl) (fun h => by rw [h3] at h; cases h)
    have k1 : Kp M w M (w.setRow (M.st b).2.1 cs2.toArray) := Kp.setRow g1 rfl rfl (fun _ => False) (by simp) (fun _ _ => rfl) (.inr (.inr (by rw [h3]; simp))) id (fun ⟨_, h⟩ => h.elim)
    obtain ⟨M', r1, r2⟩ := hI.setStk (d := d) (n := n + ys.length) (c := c) hgh g1 rfl rfl rfl (fun _ h => h) (fun _ h => h) k1 (fun _ h => h) h3 (fun k l h => by rw [size_setRow']; exact hI.ownlt k l h) h4 (fun k j h => by rw [size_setRow']; exact hI.immlt k j h) hff
      (setRow_heap w (M.st b).2.1 _ cs2.toArray T (0, 0) h6) (cap := (M.st b).2.2) (by simp [hlen2, h7]) (by rw [hlen]; simp [hlen2, h7]; omega) (fun j x hj => by
        simp only [List.getElem?_toArray]
        rw [hget]
        by_cases hjn : j < n
        · rw [List.getElem?_append_left (by rw [htl]; exact hjn), List.getElem?_take, if_pos hjn] at hj
          rw [if_pos hjn]
          obtain ⟨u, hu, hr⟩ := h9 j x hj
          exact ⟨u, hu, flat_any hr (h5 x (List.mem_of_getElem? hj))⟩
        · rw [List.getElem?_append_right (by rw [htl]; omega), htl] at hj
          have hjl := (List.getElem?_eq_some_iff.1 hj).1
          rw [if_neg hjn, if_pos (by omega)]
          obtain ⟨u, hu, hr⟩ := hry _ x hj
          exact ⟨u, hu, flat_any hr (List.all_eq_true.1 hf x (List.mem_of_getElem? hj))⟩) hd hroom hcc
    exact ⟨_, M', _, hrun, r1, r2⟩
  · have hul : (cs.toList.take n).length = n * i.size := by rw [hsz]; simp; omega
    have holds : ∀ (j : Nat) (u : Value), (cs.toList.take n)[j]? = some u → w.cell? ((⟨(M.st b).2.1, 0, none⟩ : Addr).add j) = some u := fun j u hu => by
      rw [add_none, Nat.zero_add, hcell]
      rw [List.getElem?_take] at hu
      split at hu
      · simpa using hu
      · cases hu
    have hrun := run_append_grow (P := P) w t ty e i zv ht hi hzv ⟨(M.st b).2.1, 0, none⟩ n c (cs.toList.take n) hul holds ⟨b2, o2, none⟩ ys.length c2 us2 (by rw [hsz, Nat.mul_one]; exact hul2) hnews (by omega) h63 (growslice_fits (by omega) hneed)
    have hge := grownCap_ge w (n + ys.length) c e
    generalize grownCap w (n + ys.length) c e = gc at *
    have hae : ∀ (l : List Value) (x : Array Value), l.toArray ++ x = (l ++ x.toList).toArray := fun l x => by apply Array.ext'; simp
    have hzl : ∀ m, (Builtin.zeroCells zv.cells m).toList.length = m * i.size := fun m => by rw [Array.length_toList, size_zeroCells, hzs, hsz]
    obtain ⟨hI1, k1⟩ := hI.drew
    generalize hrest : (Builtin.zeroCells zv.cells (gc - (n + ys.length))).toList = rest at *
    have hrl : rest.length = gc - (n + ys.length) := by rw [← hrest, hzl, hsz, Nat.mul_one]
    have hul' : (cs.toList.take n).length = n := by simp; omega
    let M2 : Mem := { M with own := fun k => if k = w.drew.heap.size then some (Loc.gh b 0) else M.own k }
    have hOl : ((cs.toList.take n ++ us2) ++ rest).toArray.size = gc := by simp [hul2, hrl]; omega
    have hrun2 : (Builtin.append_ #[t, t] ty #[.slice (some ⟨(M.st b).2.1, 0, none⟩) n c, .slice (some ⟨b2, o2, none⟩) ys.length c2]).run P w =
        .ok (.slice (some ⟨w.drew.heap.size, 0, none⟩) (n + ys.length) gc) (w.drew.alloc (.cells ((cs.toList.take n ++ us2) ++ rest).toArray e)) := by
      rw [hrun]
      have e1 : (cs.toList.take n ++ us2).toArray ++ Builtin.zeroCells zv.cells (gc - (n + ys.length)) = ((cs.toList.take n ++ us2) ++ rest).toArray := by rw [← hrest, hae]
      rw [← e1]; simp
    generalize hO : ((cs.toList.take n ++ us2) ++ rest).toArray = O at *
    obtain ⟨g2, k2⟩ := Good.alloc hI1 (.cells O e) M2 [] [] (by simp [M2]) (by simp [M2]) (by simp) (by simp) (fun _ => False) (by simp [M2]) (fun k hk => if_neg hk)
    have hsz2 : (w.drew.alloc (.cells O e)).heap.size = w.drew.heap.size + 1 := size_alloc' _ _
    have hni : ∀ k, ¬ M.imm w.drew.heap.size k := fun k hk => absurd (hI1.immlt _ k hk) (by omega)
    obtain ⟨M', r1, r2⟩ := hI1.setStk (d := d) (n := n + ys.length) (c := gc) (blk := w.drew.heap.size) (cap := gc) hgh g2 rfl rfl rfl (fun _ h => h.elim) (fun _ h => h) k2 (fun k h => by
        have := hI1.ownlt k _ h
        simp only [M2]; rw [if_neg (by omega)]; exact h) (by simp [M2]) (fun k l h => by
        simp only [M2] at h
        split at h
        · rename_i hk; omega
        · have := hI1.ownlt k l h; omega) hni (fun k j h => by have := hI1.immlt k j h; omega) hff (heap_alloc_new w.drew _) hOl (by rw [hlen, hOl]; omega) (fun j x hj => by
        rw [← hO]
        simp only [List.getElem?_toArray]
        by_cases hjn : j < n
        · rw [List.getElem?_append_left (by rw [htl]; exact hjn), List.getElem?_take, if_pos hjn] at hj
          have hjl := (List.getElem?_eq_some_iff.1 hj).1
          obtain ⟨u, hu, hr⟩ := h9 j x hj
          refine ⟨u, ?_, flat_any hr (h5 x (List.mem_of_getElem? hj))⟩
          rw [List.getElem?_append_left (by simp; omega), List.getElem?_append_left (by omega), List.getElem?_take, if_pos hjn]
          simpa using hu
        · rw [List.getElem?_append_right (by rw [htl]; omega), htl] at hj
          have hjl := (List.getElem?_eq_some_iff.1 hj).1
          obtain ⟨u, hu, hr⟩ := hry _ x hj
          refine ⟨u, ?_, flat_any hr (List.all_eq_true.1 hf x (List.mem_of_getElem? hj))⟩
          rw [List.getElem?_append_left (by rw [List.length_append]; omega), List.getElem?_append_right (by omega), hul']
          exact hu) hd hge (Nat.le_refl _)
    exact ⟨_, M', _, hrun2, r1, k1.trans r2⟩
theorem sim_appendK {o : Oper} {d bytes : Nat} {sx x : IX} (hI : Inv fi M w s a) (hm : mOp P fi (.append d 1 bytes sx x) o.op = true) (hd : o.dst = some d) (hlt : d < a.tmps.size) (h : opStep cf s (.appendK d bytes sx x) = some s') : Sim P fi o M w s' a := by
  obtain ⟨dst, op, ty, pos, aft, gd⟩ := o
  cases op with
  | call c =>
    obtain ⟨callee, args, argTypes⟩ := c
    cases callee with
    | builtin b =>
      cases b <;> simp [mOp] at hm
      split at hm
      · rename_i y y' t t' ha ht
        simp only [Bool.and_eq_true, beq_iff_eq, decide_eq_true_eq] at hm
        obtain ⟨⟨⟨⟨hs, hx⟩, rfl⟩, hb0⟩, hm⟩ := hm
        have ha' : args = #[y, y'] := by apply Array.ext'; simpa using ha
        have ht' : argTypes = #[t, t] := by apply Array.ext'; simpa using ht
        subst ha'; subst ht'
        split at hm <;> try (cases hm; done)
        rename_i e hu
        split at hm <;> try (cases hm; done)
        rename_i i hi
        simp only [Bool.and_eq_true, beq_iff_eq] at hm
        obtain ⟨⟨hsz, hby⟩, hm⟩ := hm
        split at hm <;> try (cases hm; done)
        rename_i zv hzv
        simp at hm
        simp only [opStep, Option.bind_eq_some_iff] at h
        obtain ⟨xv, hxv, ys, hys, h⟩ := h
        have hxr := evalX_sim hI hx hxv
        have hsl : ∀ z xs, xv ≠ .sl true z xs := fun z xs e => by
          subst e
          cases x with
          | t n => simp only [evalX, Option.map_eq_some_iff] at hxv; obtain ⟨q, _, hq⟩ := hxv; cases q <;> simp [degr] at hq
          | c q => simp only [evalX, Option.some.injEq] at hxv; cases q <;> simp [degr] at hxv
          | f id => simp [evalX] at hxv
        split at h
        · rename_i b gen n hsv
          split at h
          · rename_i g xs hgh
            split at h
            · rename_i hc
              obtain ⟨rfl, hn, hbd, hap, hf⟩ := hc
              cases h
              obtain ⟨r, M2, w2, h1, h2, k2⟩ := appendK_sim (P := P) (ty := ty) hI hu hi hzv hsz hby hm hb0 (evalX_sim hI hs hsv) hgh hn hxr hsl hys hf hap hbd hlt
              refine ⟨.value r, r, M2, w2, ?_, .inl rfl, by rw [show dst = some d from hd]; exact h2, k2⟩
              simp [execOp, resolve, invoke_builtin, builtin, h1]
            · cases h
          · cases h
        · cases h
      · cases hm
    | _ => simp [mOp] at hm
  | _ => simp [mOp] at hm
theorem appendN_sim (hI : Inv fi M w s a) {t ty e : TypeId} {i : TypeInfo} {zv : Value} {bytes : Nat} (ht : P.underlying t = some (.slice e)) (hi : P.info? e = some i) (hzv : i.zero = some zv)
    (hsz : i.size = 1) (hby : i.bytes = bytes) (hzs : zv.cells.size = 1) (hb0 : 0 < bytes) {ys : List PV} {xv : PV} {v x : Value} (hv : RepE fi M w .nils v)
    (hx : RepE fi M w xv x) (hsl : ∀ z xs, xv ≠ .sl true z xs) (he : elsOf s.gh xv = some ys) (hf : ys.all isFlat = true) (hy : ys ≠ []) (hbd : ys.length * bytes ≤ maxBytes) {d : Nat} (hd : d < a.tmps.size) :
    ∃ r M' w', (Builtin.append_ #[t, t] ty #[v, x]).run P w = .ok r w' ∧
      Inv fi M' w' ((⟨s.env, s.lh, s.gh ++ [.stk 0 ys]⟩ : St).put d (.stk s.gh.length 0 ys.length)) (a.put (some d) r) ∧ Kp M w M' w' := by
  subst hby
  obtain ⟨A2, c2, b2, o2, us2, rfl, hc2, hul2, hA2, huy, hry⟩ := els_rep hI hx hsl he hf
  cases (show RepP fi M w .nils v from hv) with
  | nils =>
  have hA2' := hA2.resolve_left hy
  subst hA2'
  have hm0 : 0 < ys.length := List.length_pos_iff.2 hy
  have hneed : ys.length * i.bytes ≤ 140737488355328 := hbd
  have h63 : ((ys.length : Nat) : Int) ≤ 9223372036854775807 := by
    have : ys.length * 1 ≤ ys.length * i.bytes := Nat.mul_le_mul_left _ hb0
    omega
  have hnews : ∀ (j : Nat) (u : Value), us2[j]? = some u → w.cell? ((⟨b2, o2, none⟩ : Addr).add j) = some u := fun j u hu => by rw [add_none]; exact (huy j u hu).1
  have hrun := run_append_nil (P := P) w t ty e i zv ht hi hzv ⟨b2, o2, none⟩ ys.length c2 us2 (by rw [hsz, Nat.mul_one]; exact hul2) hnews hm0 (by omega) (by omega)
  have hge := grownCap_ge w ys.length 0 e
  obtain ⟨hI1, k1⟩ := hI.drew
  have hae : ∀ (l : List Value) (x : Array Value), l.toArray ++ x = (l ++ x.toList).toArray := fun l x => by apply Array.ext'; simp
  have hzl : ∀ m, (Builtin.zeroCells zv.cells m).toList.length = m * i.size := fun m => by rw [Array.length_toList, size_zeroCells, hzs, hsz]
  obtain ⟨M', hI2, k2⟩ := Inv.newStk hI1 hd (fun x hx => List.all_eq_true.1 hf x hx) us2 (Builtin.zeroCells zv.cells (grownCap w ys.length 0 e - ys.length)).toList hul2
    (fun j x hj => by
      obtain ⟨u, hu, hr⟩ := hry j x hj
      exact ⟨u, hu, hr.mono k1.ext⟩) (grownCap w ys.length 0 e) hge (by rw [hul2, hzl, hsz]; omega) e _ rfl
  refine ⟨_, M', _, ?_, hI2, k1.trans k2⟩
  rw [hrun]
  simp [hae]
theorem sim_appendN {o : Oper} {d bytes : Nat} {sx x : IX} (hI : Inv fi M w s a) (hm : mOp P fi (.append d 1 bytes sx x) o.op = true) (hd : o.dst = some d) (hlt : d < a.tmps.size) (h : opStep cf s (.appendN d bytes sx x) = some s') : Sim P fi o M w s' a := by
  obtain ⟨dst, op, ty, pos, aft, gd⟩ := o
  cases op with
  | call c =>
    obtain ⟨callee, args, argTypes⟩ := c
    cases callee with
    | builtin b =>
      cases b <;> simp [mOp] at hm
      split at hm
      · rename_i y y' t t' ha ht
        simp only [Bool.and_eq_true, beq_iff_eq, decide_eq_true_eq] at hm
        obtain ⟨⟨⟨⟨hs, hx⟩, rfl⟩, hb0⟩, hm⟩ := hm
        have ha' : args = #[y, y'] := by apply Array.ext'; simpa using ha
        have ht' : argTypes = #[t, t] := by apply Array.ext'; simpa using ht
        subst ha'; subst ht'
        split at hm <;> try (cases hm; done)
        rename_i e hu
        split at hm <;> try (cases hm; done)
        rename_i i hi
        simp only [Bool.and_eq_true, beq_iff_eq] at hm
        obtain ⟨⟨hsz, hby⟩, hm⟩ := hm
        split at hm <;> try (cases hm; done)
        rename_i zv hzv
        simp at hm
        simp only [opStep, Option.bind_eq_some_iff] at h
        obtain ⟨xv, hxv, ys, hys, h⟩ := h
        have hxr := evalX_sim hI hx hxv
        have hsl : ∀ z xs, xv ≠ .sl true z xs := fun z xs e => by
          subst e
          cases x with
          | t n => simp only [evalX, Option.map_eq_some_iff] at hxv; obtain ⟨q, _, hq⟩ := hxv; cases q <;> simp [degr] at hq
          | c q => simp only [evalX, Option.some.injEq] at hxv; cases q <;> simp [degr] at hxv
          | f id => simp [evalX] at hxv
        split at h
        · rename_i b gen n hsv
          split at h
          · rename_i g xs hgh
            split at h
            · rename_i hc
              obtain ⟨rfl, hn, hbd, hap, hf⟩ := hc
              cases h
              obtain ⟨r, M2, w2, h1, h2, k2⟩ := appendK_sim (P := P) (ty := ty) hI hu hi hzv hsz hby hm hb0 (evalX_sim hI hs hsv) hgh hn hxr hsl hys hf hap hbd hlt
              refine ⟨.value r, r, M2, w2, ?_, .inl rfl, by rw [show dst = some d from hd]; exact h2, k2⟩
              simp [execOp, resolve, invoke_builtin, builtin, h1]
            · cases h
          · cases h
        · rename_i hsv
          split at h
          · rename_i hc
            obtain ⟨hy, hbd, hf⟩ := hc
            cases h
            obtain ⟨r, M2, w2, h1, h2, k2⟩ := appendN_sim (P := P) (ty := ty) hI hu hi hzv hsz hby hm hb0 (evalX_sim hI hs hsv) hxr hsl hys hf hy hbd hlt
            refine ⟨.value r, r, M2, w2, ?_, .inl rfl, by rw [show dst = some d from hd]; exact h2, k2⟩
            simp [execOp, resolve, invoke_builtin, builtin, h1]
          · cases h
        · cases h
      · cases hm
    | _ => simp [mOp] at hm
  | _ => simp [mOp] at hm
theorem sim_buildSlK {o : Oper} {d : Nat} {els : List IX} (hI : Inv fi M w s a) (hm : mOp P fi (.buildSl d 1 els) o.op = true) (hd : o.dst = some d) (hlt : d < a.tmps.size) (h : opStep cf s (.buildSlK d els) = some s') : Sim P fi o M w s' a := by
  obtain ⟨z, hz1⟩ : ∃ z, z = 1 := ⟨1, rfl⟩
  rw [← hz1] at hm
  obtain ⟨dst, op, ty, pos, aft, gd⟩ := o
  cases op <;> simp only [mOp, Bool.false_eq_true] at hm
  rename_i t len parts
  simp only [Bool.and_eq_true, beq_iff_eq, decide_eq_true_eq] at hm
  obtain ⟨⟨⟨⟨⟨⟨he, hz0⟩, hlen⟩, hbd⟩, hidx⟩, hmx⟩, hzs⟩ := hm
  obtain ⟨e, ht, hsz⟩ := elem_of he
  rw [ht] at hzs
  simp only [Option.isSome_iff_exists, Option.bind_eq_some_iff] at hzs
  obtain ⟨zv, i, hi, hzv⟩ := hzs
  simp only [opStep, Option.bind_eq_some_iff] at h
  obtain ⟨vs, hvs, h⟩ := h
  split at h
  · rename_i hc
    have hflat := hc
    have hcell : ∀ v ∈ vs, v.cells = [v] := fun v hv => by
      have := List.all_eq_true.1 hflat v hv
      cases v <;> first | rfl | (simp [isFlat] at this)
    have hc : ∀ v ∈ vs, argOk v = true ∧ v.cells.length = z := fun v hv => by
      have h1 := hcell v hv
      have h2 := List.all_eq_true.1 hflat v hv
      refine ⟨?_, by rw [h1, hz1]; rfl⟩
      unfold argOk; rw [h1]
      cases v <;> first | rfl | (simp [isFlat] at h2)
    cases h
    obtain ⟨h1, h2⟩ := evalXs_sim hI hmx hvs
    have hvl : vs.length = len := by rw [← h1, List.length_map, ← List.length_map (f := Prod.fst) (as := parts.toList), hidx, List.length_range']
    generalize hrest : ((Array.range (len * z)).map ((if len * z = 0 then #[] else zv.cells)[· % (if len * z = 0 then (#[] : Array Value) else zv.cells).size]!)).toList = rest
    have hrl : rest.length = vs.length * z := by rw [← hrest]; simp [hvl]
    obtain ⟨us, f1, f2, f3⟩ := fill_row (fi := fi) (M := M) (w := w) (z := z) vs 0 (parts.toList.map (evPart a)) [] rest (by simp) hrl hc (by
      rw [List.map_map, hvl, ← hidx]; rfl) (fun i p y hp hy => by
      simp only [List.getElem?_map, Option.map_eq_some_iff] at hy
      obtain ⟨q, hq, rfl⟩ := hy
      have := h2 i p q.2 hp (by simp [hq])
      exact this.repP (by simpa [argOk] using (hc p (List.mem_of_getElem? hp)).1))
    simp only [List.nil_append] at f1
    obtain ⟨M1, hI1, k1⟩ := hI.newStk hlt (fun x hx => List.all_eq_true.1 hflat x hx) us [] (by rw [f2, hz1, Nat.mul_one]) (fun j x hj => by
      obtain ⟨u, hu, hr⟩ := f3 j x 0 x hj (by rw [hcell x (List.mem_of_getElem? hj)]; rfl)
      exact ⟨u, by rw [hz1] at hu; simpa using hu, hr⟩) vs.length (Nat.le_refl _) (by rw [f2, hz1]; simp) e us.toArray (by simp)
    refine ⟨_, .slice (some ⟨w.heap.size, 0, none⟩) vs.length vs.length, M1, _, ?_, .inl rfl, by rw [show dst = some d from hd]; exact hI1, k1⟩
    have e1 : (parts.map fun (x : Nat × Operand) => match x with | (i, x) => (i, a.eval x)) = parts.map (evPart a) := rfl
    have hbd' : ¬ (len * z > 2 ^ 24) := by omega
    have f1' : Instr.fill (fun i => some (i * z, z)) ((Array.range (len * z)).map ((if len * z = 0 then #[] else zv.cells)[· % (if len * z = 0 then (#[] : Array Value) else zv.cells).size]!)) (parts.map (evPart a)).toList = some us.toArray := by
      rw [← f1, ← hrest, Array.toArray_toList]; congr 1; simp
    have hrun : (Instr.buildSlice t len (parts.map (evPart a))).run P w = .ok (.slice (some ⟨w.heap.size, 0, none⟩) len len) (w.alloc (.cells us.toArray e)) := by
      have hzv' : (zeroValue e).run P w = .ok zv w := by simp [zeroValue, typeInfo, hi, hzv]
      by_cases h0 : len * z = 0
      · simp only [if_pos h0] at f1'
        simp only [Instr.buildSlice, Sem.run_bind, run_underlying ht, run_sizeOf' hsz, Result.andThen_ok, if_neg hbd', if_pos h0, Sem.run_pure, f1']
        simp [newRow]
      · simp only [if_neg h0] at f1'
        simp only [Instr.buildSlice, Sem.run_bind, run_underlying ht, run_sizeOf' hsz, Result.andThen_ok, if_neg hbd', if_neg h0, hzv', Sem.run_pure, f1']
        simp [newRow]
    simp only [execOp, e1, Sem.run_bind, hrun, hvl]; rfl
  · cases h
theorem Inv.restk (hI : Inv fi M w s a) {b gen : Nat} {xs zs : List PV} (hgh : s.gh[b]? = some (.stk gen xs)) {cs cs2 : Array Value} {T : TypeId} (hh : w.heap[(M.st b).2.1]? = some (.cells cs T (0, 0))) (hsz : cs2.size = cs.size)
    (hlen : zs.length ≤ cs2.size) (hf : ∀ x ∈ zs, isFlat x = true) (hr : ∀ (j : Nat) (x : PV), zs[j]? = some x → ∃ u, cs2[j]? = some u ∧ ∀ (M' : Mem) (w' : World), RepP fi M' w' x u) :
    Inv fi M (w.setRow (M.st b).2.1 cs2) ⟨s.env, s.lh, s.gh.set b (.stk gen zs)⟩ a ∧ Kp M w M (w.setRow (M.st b).2.1 cs2) := by
  have hbl : b < s.gh.length := (List.getElem?_eq_some_iff.1 hgh).1
  have hbg : b < M.gb.length := by rw [hI.gbl]; exact hbl
  obtain ⟨o1, o2, o3, o4, o5, cs0, T0, o6, o7, o8, o9⟩ : RepStk fi M w b M.gb[b] gen xs := hI.gh b _ _ hgh (List.getElem?_eq_getElem hbg)
  rw [hh] at o6
  cases o6
  have g1 : Good M w M (w.setRow (M.st b).2.1 cs2) (fun l => l = Loc.gh b 0) (fun _ => False) :=
    Good.setRow (M := M) (M' := M) hh rfl rfl (fun _ => False) (by simp) (fun k hk => absurd hk (o4 k)) (fun _ _ => rfl) _ _ (fun l h => by rw [o3] at h; cases h; rfl) (fun h => by rw [o3] at h; cases h)
  have k1 : Kp M w M (w.setRow (M.st b).2.1 cs2) := Kp.setRow g1 rfl rfl (fun _ => False) (by simp) (fun _ _ => rfl) (.inr (.inr (by rw [o3]; simp))) id (fun ⟨_, h⟩ => h.elim)
  refine ⟨⟨fun t u hu => ⟨(hI.env t u hu).1, (hI.env t u hu).2.good g1 (fun i h => by cases h)⟩, hI.defers, hI.lbl, by simpa using hI.gbl, hI.nodup, fun i cs blk h1 h2 => (hI.lh i cs blk h1 h2).good g1 id (fun j h => by cases h), fun i o blk' h1 h2 => ?_,
    g1.ext.gl hI.gl, fun k j h => by rw [size_setRow']; exact hI.immlt k j h, fun k l h => by rw [size_setRow']; exact hI.ownlt k l h, fun k h => by rw [size_setRow']; exact hI.gblt k h⟩, k1⟩
  simp only at h1
  rw [List.getElem?_set] at h1
  by_cases hbi : b = i
  · subst hbi
    rw [if_pos rfl, if_pos hbl] at h1
    cases h1
    have eb : M.gb[b] = blk' := by rw [List.getElem?_eq_getElem hbg] at h2; exact Option.some.inj h2
    refine ⟨by rw [← eb]; exact o1, o2, o3, o4, hf, cs2, T, setRow_heap w (M.st b).2.1 _ cs2 T (0, 0) hh, by rw [hsz]; exact o7, hlen, fun j x hj => ?_⟩
    obtain ⟨u, hu, hru⟩ := hr j x hj
    exact ⟨u, hu, hru _ _⟩
  · rw [if_neg hbi] at h1
    exact (hI.gh i o blk' h1 h2).good g1 id (fun j h => by injection h with h1 h2; exact hbi h1.symm)
theorem sim_storeK {o : Oper} {y x : IX} (hI : Inv fi M w s a) (hm : mOp P fi (.store false 1 y x) o.op = true) (hd : o.dst = none) (h : opStep cf s (.storeK y x) = some s') : Sim P fi o M w s' a := by
  obtain ⟨dst, op, ty, pos, aft, gd⟩ := o
  cases op <;> simp [mOp] at hm
  rename_i t y' x'
  simp only [opStep] at h
  split at h
  · rename_i b gen i v hp hv
    split at h
    · rename_i g xs hgh
      split at h
      · rename_i hc
        obtain ⟨rfl, hi, hfl⟩ := hc
        cases h
        have hp' := evalX_sim hI hm.1.1 hp
        have hv' := evalX_sim hI hm.1.2 hv
        generalize hu : a.eval y' = u at hp'
        cases (show RepP fi M w (.pstk b g i) u from hp') with
        | pstk _ _ _ blk hb hgn hA =>
        obtain ⟨o1, o2, o3, o4, o5, cs, T, o6, o7, o8, o9⟩ : RepStk fi M w b M.gb[b] g xs := hI.gh b _ _ hgh (List.getElem?_eq_getElem hb)
        have hblk := hA o2.symm
        subst hblk
        have hrv : RepP fi M w v (a.eval x') := hv'.repP (by cases v <;> first | rfl | (simp [isFlat] at hfl))
        have hst := run_storeCells_at P (M.st b).2.1 i T [a.eval x'] 0 cs w o6 (by simp; omega) (by simpa using flat_cell hrv hfl)
        simp only [Nat.add_zero] at hst
        generalize hcs2 : (cs.toList.take i ++ [a.eval x'] ++ cs.toList.drop (i + [a.eval x'].length)).toArray = cs2 at hst
        have hfit : i + [a.eval x'].length ≤ cs.toList.length := by simp; omega
        have hget : ∀ k, cs2[k]? = if k < i then cs[k]? else if k < i + 1 then [a.eval x'][k - i]? else cs[k]? := fun k => by
          rw [← hcs2]
          simp only [List.getElem?_toArray]
          rw [splice_get _ _ _ _ hfit]; simp
        have hsz2 : cs2.size = cs.size := by rw [← hcs2]; simp only [List.size_toArray]; rw [splice_len _ _ _ hfit]; simp
        obtain ⟨r1, r2⟩ := hI.restk (zs := xs.set i v) hgh o6 hsz2 (by simp; omega) (fun z hz => by
          rcases List.mem_or_eq_of_mem_set hz with h | h
          · exact o5 z h
          · rw [h]; exact hfl) (fun j z hj => by
          rw [List.getElem?_set] at hj
          rw [hget]
          by_cases hji : i = j
          · subst hji
            rw [if_pos rfl, if_pos hi] at hj
            cases hj
            rw [if_neg (by omega), if_pos (by omega)]
            exact ⟨_, by simp, flat_any hrv hfl⟩
          · rw [if_neg hji] at hj
            obtain ⟨u, hu, hr⟩ := o9 j z hj
            refine ⟨u, ?_, flat_any hr (o5 z (List.mem_of_getElem? hj))⟩
            by_cases hlt : j < i
            · rw [if_pos hlt]; exact hu
            · rw [if_neg hlt, if_neg (by omega)]; exact hu)
        refine ⟨_, undef, M, _, ?_, .inr ⟨rfl, rfl⟩, by rw [show dst = none from hd]; exact r1, r2⟩
        have hcell : (a.eval x').cells = #[a.eval x'] := by
          have := hrv
          generalize a.eval x' = u at this
          cases this <;> first | rfl | (simp [isFlat] at hfl)
        have hrun : (Instr.storeAt t (.pointer (some ⟨(M.st b).2.1, i, none⟩)) (a.eval x')).run P w = .ok () (w.setRow (M.st b).2.1 cs2) := by
          have hst' : (storeCells ⟨(M.st b).2.1, i, none⟩ (a.eval x').cells.toList).run P w = .ok () (w.setRow (M.st b).2.1 cs2) := by rw [hcell]; exact hst
          simp [Instr.storeAt, Instr.sureAddr, storeVar, run_sizeOf' hm.2, hcell, hst]
        simp [execOp, hu, hrun]
      · cases h
    · cases h
  · cases h
theorem sim_clearK {o : Oper} {x : IX} (hI : Inv fi M w s a) (hm : mOp P fi (.clearK x) o.op = true) (hd : o.dst = none) (h : opStep cf s (.clearK x) = some s') : Sim P fi o M w s' a := by
  obtain ⟨dst, op, ty, pos, aft, gd⟩ := o
  cases op with
  | call c =>
    obtain ⟨callee, args, argTypes⟩ := c
    cases callee with
    | builtin bi =>
      cases bi <;> simp [mOp] at hm
      split at hm
      · rename_i y t ha ht
        have ha' : args = #[y] := by apply Array.ext'; simpa using ha
        have ht' : argTypes = #[t] := by apply Array.ext'; simpa using ht
        subst ha'; subst ht'
        simp only [Bool.and_eq_true] at hm
        obtain ⟨hx, hm⟩ := hm
        split at hm <;> try (cases hm; done)
        rename_i e hu
        split at hm <;> try (cases hm; done)
        rename_i zn hzv
        have hz0 : zn = 0 := by simpa using hm
        subst hz0
        simp only [opStep] at h
        split at h
        · rename_i b gen off n hp
          split at h
          · rename_i g xs hgh
            split at h
            · rename_i hc
              obtain ⟨rfl, hn⟩ := hc
              cases h
              have hx' := evalX_sim hI hx hp
              generalize hv : a.eval y = v at hx'
              cases (show RepP fi M w (.sub b g off n) v from hx') with
              | sub _ _ _ _ blk c A hb hgn hA hcn hAd =>
              obtain ⟨o1, o2, o3, o4, o5, cs, T, o6, o7, o8, o9⟩ : RepStk fi M w b M.gb[b] g xs := hI.gh b _ _ hgh (List.getElem?_eq_getElem hb)
              obtain ⟨hblk, hcc⟩ := hA o2.symm
              subst hblk
              rcases Nat.eq_zero_or_pos n with h0 | h0
              · subst h0
                have hset : s.gh.set b (.stk g (xs.take off ++ List.replicate 0 (PV.int .i64 0) ++ xs.drop (off + 0))) = s.gh := by
                  simp only [List.replicate_zero, List.append_nil, Nat.add_zero, List.take_append_drop]
                  apply List.ext_getElem?
                  intro j
                  rw [List.getElem?_set]
                  by_cases hj : b = j
                  · subst hj
                    rw [if_pos rfl, if_pos (List.getElem?_eq_some_iff.1 hgh).1, hgh]
                  · rw [if_neg hj]
                rw [hset]
                refine ⟨.value (.tuple #[]), .tuple #[], M, w, ?_, .inl rfl, by rw [show dst = none from hd]; exact hI, Kp.refl M w⟩
                cases A <;> simp [execOp, resolve, invoke_builtin, builtin, hv, Builtin.clear_, run_underlying hu]
              have hzr : ∀ w, (zeroValue e).run P w = .ok (.int .i64 0) w := fun w => by
                simp only [Option.bind_eq_some_iff] at hzv
                obtain ⟨i, hi, hz⟩ := hzv
                simp [zeroValue, typeInfo, hi, hz]
              have hst := run_storeCells_at P (M.st b).2.1 off T (List.replicate n (.int .i64 0)) 0 cs w o6 (by simp; omega) (by intro u hu'; rw [List.eq_of_mem_replicate hu']; rfl)
              simp only [Nat.add_zero] at hst
              generalize hcs2 : (cs.toList.take off ++ List.replicate n (Value.int .i64 0) ++ cs.toList.drop (off + (List.replicate n (Value.int .i64 0)).length)).toArray = cs2 at hst
              have hfit : off + (List.replicate n (Value.int .i64 0)).length ≤ cs.toList.length := by simp; omega
              have hget : ∀ k, cs2[k]? = if k < off then cs[k]? else if k < off + n then (List.replicate n (Value.int .i64 0))[k - off]? else cs[k]? := fun k => by
                rw [← hcs2]
                simp only [List.getElem?_toArray]
                rw [splice_get _ _ _ _ hfit]; simp
              have hsz2 : cs2.size = cs.size := by rw [← hcs2]; simp only [List.size_toArray]; rw [splice_len _ _ _ hfit]; simp
              have hzl : (xs.take off ++ List.replicate n (PV.int .i64 0) ++ xs.drop (off + n)).length = xs.length := by simp; omega
              have hzg : ∀ j, (xs.take off ++ List.replicate n (PV.int .i64 0) ++ xs.drop (off + n))[j]? = if j < off then xs[j]? else if j < off + n then (List.replicate n (PV.int .i64 0))[j - off]? else xs[j]? := fun j => by
                have := splice_get xs (List.replicate n (PV.int .i64 0)) off j (by simp; omega)
                simpa using this
              obtain ⟨r1, r2⟩ := hI.restk (zs := xs.take off ++ List.replicate n (PV.int .i64 0) ++ xs.drop (off + n)) hgh o6 hsz2 (by rw [hzl, hsz2]; exact o8) (fun z hz => by
                simp only [List.mem_append] at hz
                rcases hz with (hz | hz) | hz
                · exact o5 z (List.mem_of_mem_take hz)
                · rw [List.eq_of_mem_replicate hz]; rfl
                · exact o5 z (List.mem_of_mem_drop hz)) (fun j z hj => by
                rw [hzg] at hj
                rw [hget]
                by_cases h1 : j < off
                · rw [if_pos h1] at hj ⊢
                  obtain ⟨u, hu', hr⟩ := o9 j z hj
                  exact ⟨u, hu', flat_any hr (o5 z (List.mem_of_getElem? hj))⟩
                · rw [if_neg h1] at hj ⊢
                  by_cases h2 : j < off + n
                  · rw [if_pos h2] at hj ⊢
                    rw [List.getElem?_replicate, if_pos (by omega)] at hj ⊢
                    cases hj
                    exact ⟨_, rfl, fun _ _ => .int _ _⟩
                  · rw [if_neg h2] at hj ⊢
                    obtain ⟨u, hu', hr⟩ := o9 j z hj
                    exact ⟨u, hu', flat_any hr (o5 z (List.mem_of_getElem? hj))⟩)
              have hzc : (Builtin.zeroCells #[Value.int .i64 0] n).toList = List.replicate n (Value.int .i64 0) := by
                simp [Builtin.zeroCells]
                apply List.ext_getElem
                · simp
                · intro i h1 h2
                  simp [Nat.mod_one]
              refine ⟨.value (.tuple #[]), .tuple #[], M, _, ?_, .inl rfl, by rw [show dst = none from hd]; exact r1, r2⟩
              have hA' := hAd.resolve_left (by omega)
              subst hA'
              obtain ⟨m, rfl⟩ : ∃ m, n = m + 1 := ⟨n - 1, by omega⟩
              simp [execOp, resolve, invoke_builtin, builtin, hv, Builtin.clear_, run_underlying hu, hzr, hzc, hst, Value.cells]
            · cases h
          · cases h
        · cases h
      · cases hm
    | _ => simp [mOp] at hm
  | _ => simp [mOp] at hm
theorem sim_loadK {o : Oper} {d : Nat} {x : IX} (hI : Inv fi M w s a) (hm : mOp P fi (.load d false 1 x) o.op = true) (hd : o.dst = some d) (hlt : d < a.tmps.size) (h : opStep cf s (.loadK d x) = some s') : Sim P fi o M w s' a := by
  obtain ⟨dst, op, ty, pos, aft, gd⟩ := o
  cases op <;> simp [mOp] at hm
  rename_i t y
  simp only [opStep] at h
  split at h
  · rename_i b gen i hp
    simp only [Option.map_eq_some_iff] at h
    obtain ⟨v, hg, rfl⟩ := h
    obtain ⟨r, h1, h2⟩ := load_stk (P := P) hI hm.1.2 (evalX_sim hI hm.1.1 hp) hg
    exact Sim.pure hI hd hlt (by simp [execOp, h1]) h2.repE.repAt
  · cases h
end
end Go.Lw
end

/-! What a function that is called sees of memory, and what is told of it when it is back. -/
section
namespace Go.Lw
open Go Go.RowKit
section
variable {fi : FI} {M M' : Mem} {w w' : World} {P : Program} {s s' : St} {a : Act} {cf : CallF}
def Mem.noLb (M : Mem) : Mem := { M with lb := [] }
theorem Ext.noLb (M : Mem) (w : World) : Ext M w M.noLb w := ⟨fun _ _ h => h, fun _ _ h => h, fun _ _ _ => rfl, fun _ _ => ⟨Nat.le_refl _, fun _ => rfl⟩⟩
theorem OwnRep.noLb {l : Loc} {z : Nat} {xs : List PV} {v : Value} (h : OwnRep fi M w l z xs v) : OwnRep fi M.noLb w l z xs v := by
  obtain ⟨h1, h2⟩ := h
  refine ⟨h1.mono (Ext.noLb M w), ?_⟩
  rcases h2 with h2 | ⟨b, o, c, cs, e, hv, ho, hh, hs, hk, hb1, hb2⟩
  · exact .inl h2
  · exact .inr ⟨b, o, c, cs, e, hv, ho, hh, hs, hk, by simp [Mem.noLb], hb2⟩
theorem RepC.noLb {l : Loc} {p : PV} {v : Value} (h : RepC fi M w l p v) : RepC fi M.noLb w l p v := by
  unfold RepC at *
  split at h
  · exact OwnRep.noLb h
  · exact h.mono (Ext.noLb M w)
theorem RepObj.noLb {i blk : Nat} {o : GObj} (h : RepObj fi M w i blk o) : RepObj fi M.noLb w i blk o := by
  cases o with
  | cells cs =>
    obtain ⟨h1, h2, h3, h4, vs, T, h5, h6, h7⟩ := h
    exact ⟨h1, h2, h3, h4, vs, T, h5, h6, fun i c u hc hu => (h7 i c u hc hu).noLb⟩
  | map es =>
    obtain ⟨h1, h2, l, clock, h3, h4, h5⟩ := h
    exact ⟨h1, h2, l, clock, h3, h4, fun i e m he hm => ⟨(h5 i e m he hm).1.mono (Ext.noLb M w), (h5 i e m he hm).2.1.mono (Ext.noLb M w), (h5 i e m he hm).2.2⟩⟩
  | stk gen xs =>
    obtain ⟨h1, h2, h3, h4, h5, cs, T, h6, h7, h8, h9⟩ := h
    exact ⟨h1, h2, h3, h4, h5, cs, T, h6, h7, h8, fun j x hj => by
      obtain ⟨u, hu, hr⟩ := h9 j x hj
      exact ⟨u, hu, hr.mono (Ext.noLb M w)⟩⟩
theorem resOk_one {p : PV} (h : resOk p = true) (h1 : ∀ cs, p ≠ .tup cs) : argOk p = true := by
  cases p with
  | tup cs => exact absurd rfl (h1 cs)
  | _ => exact h
theorem RepAt.noLb {mk : Nat → Loc} {p : PV} {v : Value} (h : RepAt fi M w mk p v) (hok : resOk p = true) : RepAt fi M.noLb w mk p v := by
  unfold RepAt at *
  split at h
  · exact OwnRep.noLb h
  · cases hok
  · obtain ⟨vs, h1, h2, h3⟩ := h
    exact ⟨vs, h1, h2, fun i c u hc hu => (h3 i c u hc hu).noLb⟩
  · obtain ⟨vs, h1, h2, h3⟩ := h
    exact ⟨vs, h1, h2, fun i c u hc hu => (h3 i c u hc hu).noLb⟩
  · rename_i h3
    exact ((h.repP (resOk_one hok (fun cs => h3 cs))).mono (Ext.noLb M w)).repE
theorem gb_own (hI : Inv fi M w s a) {b : Nat} (hb : b ∈ M.gb) : M.own b = none ∨ ∃ i j, M.own b = some (Loc.gh i j) := by
  obtain ⟨i, hi, rfl⟩ := List.mem_iff_getElem.1 hb
  have h2 : i < s.gh.length := by rw [← hI.gbl]; exact hi
  have := hI.gh i _ _ (List.getElem?_eq_getElem h2) (List.getElem?_eq_getElem hi)
  cases ho : s.gh[i] with
  | cells cs => rw [ho] at this; exact .inl this.2.2.1
  | map es => rw [ho] at this; exact .inl this.2.1
  | stk gen xs => rw [ho] at this; exact .inr ⟨_, _, this.1⟩
theorem lb_own (hI : Inv fi M w s a) {b : Nat} (hb : b ∈ M.lb) : M.own b = none := by
  obtain ⟨i, hi, rfl⟩ := List.mem_iff_getElem.1 hb
  have h2 : i < s.lh.length := by rw [← hI.lbl]; exact hi
  exact (hI.lh i _ _ (List.getElem?_eq_getElem h2) (List.getElem?_eq_getElem hi)).2.2.1
def GI (fi : FI) (M : Mem) (w : World) (gh : List GObj) : Prop := Inv fi M w ⟨[], [], gh⟩ ⟨#[], []⟩
def priv (g : Bool) : Loc → Bool
  | .gh _ _ => !g
  | _ => true
def Mem.callee (M : Mem) (g : Bool) : Mem := { lb := [], gb := if g then M.gb else [], imm := M.imm, own := fun b => (M.own b).bind fun l => if priv g l then none else some l, st := M.st }
def backL (g : Bool) (mk : Nat → Loc) : Loc → Option Loc
  | .gh i j => if g then some (.gh i j) else none
  | .res i => some (mk i)
  | _ => none
def Mem.back (M M' : Mem) (g : Bool) (mk : Nat → Loc) : Mem :=
  { lb := M.lb, gb := if g then M'.gb else M.gb, imm := M'.imm,
    own := fun b => match M.own b with
      | some l => if priv g l then some l else (M'.own b).bind (backL g mk)
      | none => (M'.own b).bind (backL g mk),
    st := if g then M'.st else M.st }
theorem callee_own {g : Bool} {b : Nat} {l : Loc} : (M.callee g).own b = some l ↔ M.own b = some l ∧ priv g l = false := by
  simp only [Mem.callee, Option.bind_eq_some_iff]
  constructor
  · rintro ⟨l', h1, h2⟩
    cases hp : priv g l' <;> simp [hp] at h2
    subst h2; exact ⟨h1, hp⟩
  · rintro ⟨h1, h2⟩
    exact ⟨l, h1, by simp [h2]⟩
theorem callee_own_none {g : Bool} {b : Nat} : (M.callee g).own b = none ↔ (∀ l, M.own b = some l → priv g l = true) := by
  cases ho : (M.callee g).own b with
  | none =>
    simp only [true_iff]
    intro l hl
    cases hp : priv g l with
    | true => rfl
    | false => rw [callee_own.2 ⟨hl, hp⟩] at ho; cases ho
  | some l =>
    obtain ⟨h1, h2⟩ := callee_own.1 ho
    constructor
    · intro h; cases h
    · intro h; rw [h l h1] at h2; cases h2
theorem priv_gh {g : Bool} {l : Loc} (h : priv g l = false) : ∃ i j, l = .gh i j := by
  cases l <;> simp [priv] at h
  exact ⟨_, _, rfl⟩
theorem Inv.callee (hI : Inv fi M w s a) (g : Bool) : GI fi (M.callee g) w (if g then s.gh else []) ∧ (M.callee g).lb = [] ∧ ∀ b l, (M.callee g).own b = some l → ∃ i j, l = .gh i j := by
  refine ⟨⟨fun t v h => by simp [get] at h, rfl, rfl, ?_, ?_, fun i cs blk h => by simp at h, fun i o blk h1 h2 => ?_, hI.gl, hI.immlt, fun b l h => hI.ownlt b l (callee_own.1 h).1, fun b hb => ?_⟩, rfl, fun b l h => priv_gh (callee_own.1 h).2⟩
  · cases g
    · rfl
    · exact hI.gbl
  · cases g
    · simp [Mem.callee]
    · have := hI.nodup
      rw [List.nodup_append] at this
      simpa [Mem.callee] using this.2.1
  · cases g with
    | false => simp at h1
    | true =>
      have h3 := (hI.gh i o blk h1 h2).noLb
      have G : Good M.noLb w (M.callee true) w (fun l => priv true l = true) (fun _ => False) :=
        ⟨⟨fun _ _ h => h, fun _ _ h => h, fun _ _ _ => rfl, fun _ _ => ⟨Nat.le_refl _, fun _ => rfl⟩⟩, Nat.le_refl _, fun i k h => by simp [Mem.noLb] at h,
          fun b l h hl => ⟨callee_own.2 ⟨h, by simpa using hl⟩, rfl, fun _ h => h, fun h => h, fun h => h⟩,
          fun b _ _ h => ⟨rfl, fun _ h => h, callee_own_none.2 fun l hl => by rw [show M.own b = none from h] at hl; cases hl⟩, fun _ _ => rfl⟩
      exact h3.good G (by simp) (by simp [priv])
  · cases g with
    | false => simp [Mem.callee] at hb
    | true => exact hI.gblt b hb
theorem Inv.back (hI : Inv fi M w s a) (g : Bool) {gh' : List GObj} (mk : Nat → Loc) (hmk : ∀ i, priv g (mk i) = true) (hG : GI fi M' w' gh') (hlb : M'.lb = [])
    (hk : Kp (M.callee g) w M' w') {r : PV} {v : Value} (hr : RepAt fi M' w' Loc.res r v) (hg : g = false → r.noG = true) (hok : resOk r = true) :
    Inv fi (M.back M' g mk) w' ⟨s.env, s.lh, if g then gh' else s.gh⟩ a ∧ Kp M w (M.back M' g mk) w' ∧ RepAt fi (M.back M' g mk) w' mk r v := by
  have bown : ∀ b l, M.own b = some l → priv g l = true → (M.back M' g mk).own b = some l := fun b l h hp => by simp [Mem.back, h, hp]
  have bown2 : ∀ b, (∀ l, M.own b = some l → priv g l = false) → (M.back M' g mk).own b = (M'.own b).bind (backL g mk) := fun b h => by
    cases ho : M.own b with
    | none => simp [Mem.back, ho]
    | some l => simp [Mem.back, ho, h l ho]
  -- what is the caller's own, the callee leaves
  have pv : ∀ b l, M.own b = some l → priv g l = true → M'.own b = none ∧ w'.heap[b]? = w.heap[b]? ∧ ∀ k, M'.imm b k → M.imm b k := fun b l h hp => by
    have hc : (M.callee g).own b = none := callee_own_none.2 fun l' hl' => by rw [h] at hl'; cases hl'; exact hp
    have hlt := hI.ownlt b l h
    refine ⟨hk.ownn b hlt hc, hk.block b hlt (by simp [Mem.callee]) (fun hb => ?_) hc, fun k hi => ?_⟩
    · cases g with
      | false => simp [Mem.callee] at hb
      | true =>
        rcases gb_own hI hb with this | ⟨i, j, this⟩ <;> rw [h] at this <;> cases this
        simp [priv] at hp
    · rcases hk.immn b k hi with h1 | h1 | h1
      · exact h1
      · omega
      · exact absurd hc h1
  have no : ∀ b, b < w.heap.size → ¬ (g = true ∧ b ∈ M.gb) → M.own b = none → w'.heap[b]? = w.heap[b]? ∧ (∀ k, M'.imm b k → M.imm b k) ∧ M'.own b = none := fun b hlt hx h => by
    have hc : (M.callee g).own b = none := callee_own_none.2 fun l' hl' => by rw [h] at hl'; cases hl'
    refine ⟨hk.block b hlt (by simp [Mem.callee]) (fun hb => ?_) hc, fun k hi => ?_, hk.ownn b hlt hc⟩
    · cases g with
      | false => simp [Mem.callee] at hb
      | true => exact hx ⟨rfl, hb⟩
    · rcases hk.immn b k hi with h1 | h1 | h1
      · exact h1
      · omega
      · exact absurd hc h1
  have gbx : ∀ b, b ∈ M'.gb → b ∈ M.gb ∨ w.heap.size ≤ b ∨ (M.callee g).own b ≠ none := fun b hb => by
    rcases hk.gbn b hb with h1 | h1
    · cases g with
      | false => simp [Mem.callee] at h1
      | true => exact .inl h1
    · exact .inr h1
  have lbg : ∀ b, b ∈ M.lb → b ∉ M.gb := fun b h1 h2 => by
    have := hI.nodup
    rw [List.nodup_append] at this
    exact this.2.2 b h1 b h2 rfl
  have gbb : ∀ b, b ∈ (M.back M' g mk).gb → b ∈ M.gb ∨ w.heap.size ≤ b ∨ (M.callee g).own b ≠ none := fun b hb => by
    cases g with
    | false => exact .inl hb
    | true => exact gbx b hb
  have hext : Ext M w (M.back M' g mk) w' := ⟨fun i k h => by
      cases g with
      | false => exact h
      | true => exact hk.ext.gb i k h, hk.ext.imm, hk.ext.cell, fun b hb => by
      cases g with
      | false => exact ⟨Nat.le_refl _, fun _ => rfl⟩
      | true => exact hk.ext.st b hb⟩
  have G : Good M w (M.back M' g mk) w' (fun l => priv g l = false) (fun b => g = true ∧ b ∈ M.gb) :=
    ⟨hext, hk.size, fun _ _ h => h,
      fun b l h hl => by
        have hp : priv g l = true := by simpa using hl
        obtain ⟨p1, p2, p3⟩ := pv b l h hp
        refine ⟨bown b l h hp, p2, fun k h1 h2 => h1 (p3 k h2), fun h => h, fun h1 h2 => ?_⟩
        rcases gbb b h2 with h3 | h3 | h3
        · exact h1 h3
        · have := hI.ownlt b l h; omega
        · exact h3 (callee_own_none.2 fun l' hl' => by rw [h] at hl'; cases hl'; exact hp),
      fun b hlt hx h => by
        obtain ⟨n1, n2, n3⟩ := no b hlt hx h
        refine ⟨n1, fun k h1 h2 => h1 (n2 k h2), ?_⟩
        rw [bown2 b (fun l hl => by rw [h] at hl; cases hl), n3]; rfl,
      fun i hi => by
        cases g with
        | false => rfl
        | true => exact absurd (show priv true (Loc.gh i 0) = false from rfl) hi⟩
  -- the callee's boxes
  have G2 : Good M' w' (M.back M' g mk) w' (fun l => ¬ ∃ i j, l = .gh i j ∧ g = true) (fun b => ∃ l, M.own b = some l ∧ priv g l = true) ∨ g = false := by
    cases hgb : g with
    | false => exact .inr rfl
    | true =>
      subst hgb
      refine .inl ⟨⟨fun _ _ h => h, fun _ _ h => h, fun _ _ _ => rfl, fun _ _ => ⟨Nat.le_refl _, fun _ => rfl⟩⟩, Nat.le_refl _, fun i k h => by rw [hlb] at h; simp at h, fun b l h hl => ?_, fun b hlt hx h => ?_, fun _ _ => rfl⟩
      · obtain ⟨i, j, rfl, _⟩ := Classical.not_not.1 hl
        have np : ∀ l, M.own b = some l → priv true l = false := fun l hl => by
          cases hp : priv true l with
          | false => rfl
          | true => rw [(pv b l hl hp).1] at h; cases h
        refine ⟨by rw [bown2 b np, h]; rfl, rfl, fun _ h => h, fun _ h2 => ?_, fun h => h⟩
        have h3 := lb_own hI h2
        have h4 := (no b (lb_lt hI b h2) (fun hx => lbg b h2 hx.2) h3).2.2
        rw [h4] at h; cases h
      · refine ⟨rfl, fun _ h => h, ?_⟩
        rw [bown2 b (fun l hl => by
          cases hp : priv true l with
          | false => rfl
          | true => exact absurd ⟨l, hl, hp⟩ hx), h]; rfl
  refine ⟨⟨fun t u hu => ⟨(hI.env t u hu).1, (hI.env t u hu).2.good G (fun i => by simp [priv])⟩, hI.defers, hI.lbl, ?_, ?_, fun i cs blk h1 h2 => (hI.lh i cs blk h1 h2).good G (fun hx => lbg blk (List.mem_of_getElem? h2) hx.2) (fun i => by simp [priv]),
    fun i o blk h1 h2 => ?_, hG.gl, hG.immlt, fun b l h => ?_, fun b hb => ?_⟩, ⟨hk.os, hk.tape, hk.output, hk.size, hext, fun k hlt h1 h2 h3 => (no k hlt (fun hx => h2 hx.2) h3).1, fun k h => .inl h, fun b hb => (gbb b hb).imp_right fun h => h.imp_right fun h h2 => h (callee_own_none.2 fun l' hl' => by rw [h2] at hl'; cases hl'), fun k hlt h => ?_, fun b k h => ?_⟩, ?_⟩
  · cases g with
    | false => exact hI.gbl
    | true => exact hG.gbl
  · cases g with
    | false => exact hI.nodup
    | true =>
      have h1 := hI.nodup
      have h2 := hG.nodup
      rw [List.nodup_append] at h1 ⊢
      rw [hlb, List.nil_append] at h2
      refine ⟨h1.1, h2, fun x hx y hy hxy => ?_⟩
      subst hxy
      rcases gbx x hy with h3 | h3 | h3
      · exact lbg x hx h3
      · have := lb_lt hI x hx; omega
      · exact h3 (callee_own_none.2 fun l' hl' => by rw [lb_own hI hx] at hl'; cases hl')
  · cases g with
    | false => exact (hI.gh i o blk h1 h2).good G (by simp) (fun j => by simp [priv])
    | true =>
      have h3 := hG.gh i o blk h1 h2
      refine h3.good (G2.resolve_right (by simp)) ?_ (fun j h => h ⟨i, j, rfl, rfl⟩)
      rintro ⟨l, h4, h5⟩
      rcases gbx blk (List.mem_of_getElem? h2) with h6 | h6 | h6
      · rcases gb_own hI h6 with this | ⟨i', j', this⟩ <;> rw [h4] at this <;> cases this
        simp [priv] at h5
      · have := hI.ownlt blk l h4; omega
      · exact h6 (callee_own_none.2 fun l' hl' => by rw [h4] at hl'; cases hl'; exact h5)
  · cases ho : M.own b with
    | some l' => exact Nat.lt_of_lt_of_le (hI.ownlt b l' ho) hk.size
    | none =>
      rw [bown2 b (fun l hl => by rw [ho] at hl; cases hl), Option.bind_eq_some_iff] at h
      obtain ⟨l', h1, _⟩ := h
      exact hG.ownlt b l' h1
  · cases g with
    | false => exact Nat.lt_of_lt_of_le (hI.gblt b hb) hk.size
    | true => exact hG.gblt b hb
  · by_cases hx : g = true ∧ k ∈ M.gb
    · obtain ⟨rfl, hx⟩ := hx
      have hc : (M.callee true).own k = none := callee_own_none.2 fun l' hl' => by rw [h] at hl'; cases hl'
      rw [bown2 k (fun l hl => by rw [h] at hl; cases hl), hk.ownn k hlt hc]; rfl
    · rw [bown2 k (fun l hl => by rw [h] at hl; cases hl), (no k hlt hx h).2.2]; rfl
  · rcases hk.immn b k h with h1 | h1 | h1
    · exact .inl h1
    · exact .inr (.inl h1)
    · refine .inr (.inr fun h2 => h1 (callee_own_none.2 fun l hl => by rw [h2] at hl; cases hl))
  · -- the result
    have ow : ∀ {i : Nat} {z : Nat} {xs : List PV} {u : Value}, OwnRep fi M' w' (.res i) z xs u → (g = false → noGs xs = true) → OwnRep fi (M.back M' g mk) w' (mk i) z xs u := by
      intro i z xs u h hng
      obtain ⟨h1, h2⟩ := h
      have e1 : RepP fi (M.back M' g mk) w' (.sl false z xs) u := by
        cases hgb : g with
        | true => subst hgb; exact h1.mono (show Ext M' w' (M.back M' true mk) w' from ⟨fun _ _ h => h, fun _ _ h => h, fun _ _ _ => rfl, fun _ _ => ⟨Nat.le_refl _, fun _ => rfl⟩⟩)
        | false =>
          subst hgb
          exact (h1.noG M.gb M.st (by simpa [PV.noG] using hng rfl)).mono (show Ext { M' with gb := M.gb, st := M.st } w' (M.back M' false mk) w' from ⟨fun _ _ h => h, fun _ _ h => h, fun _ _ _ => rfl, fun _ _ => ⟨Nat.le_refl _, fun _ => rfl⟩⟩)
      refine ⟨e1, ?_⟩
      rcases h2 with h2 | ⟨b, o, c, cs, e, hv, ho, hh, hs, hk', hb1, hb2⟩
      · exact .inl h2
      · have np : ∀ l, M.own b = some l → priv g l = false := fun l hl => by
          cases hp : priv g l with
          | false => rfl
          | true => rw [(pv b l hl hp).1] at ho; cases ho
        refine .inr ⟨b, o, c, cs, e, hv, by rw [bown2 b np, ho]; rfl, hh, hs, hk', fun h2 => ?_, fun h2 => ?_⟩
        · have h3 := lb_own hI h2
          have h4 := (no b (lb_lt hI b h2) (fun hx => lbg b h2 hx.2) h3).2.2
          rw [h4] at ho; cases ho
        · cases hgb : g with
          | true => subst hgb; exact hb2 h2
          | false =>
            subst hgb
            rcases gb_own hI (b := b) h2 with h3 | ⟨i', j', h3⟩
            · have h4 := (no b (hI.gblt b h2) (by simp) h3).2.2
              rw [h4] at ho; cases ho
            · rw [(pv b _ h3 rfl).1] at ho; cases ho
    have rp : ∀ {p : PV} {u : Value}, RepP fi M' w' p u → (g = false → p.noG = true) → RepP fi (M.back M' g mk) w' p u := by
      intro p u h hng
      cases hgb : g with
      | true => subst hgb; exact h.mono (show Ext M' w' (M.back M' true mk) w' from ⟨fun _ _ h => h, fun _ _ h => h, fun _ _ _ => rfl, fun _ _ => ⟨Nat.le_refl _, fun _ => rfl⟩⟩)
      | false =>
        subst hgb
        exact (h.noG M.gb M.st (hng rfl)).mono (show Ext { M' with gb := M.gb, st := M.st } w' (M.back M' false mk) w' from ⟨fun _ _ h => h, fun _ _ h => h, fun _ _ _ => rfl, fun _ _ => ⟨Nat.le_refl _, fun _ => rfl⟩⟩)
    have rc : ∀ {i : Nat} {p : PV} {u : Value}, RepC fi M' w' (.res i) p u → (g = false → p.noG = true) → RepC fi (M.back M' g mk) w' (mk i) p u := by
      intro i p u h hng
      unfold RepC at *
      split at h
      · exact ow h (fun e => by simpa [PV.noG] using hng e)
      · exact rp h hng
    unfold RepAt at hr ⊢
    split at hr
    · exact ow hr (fun e => by simpa [PV.noG] using hg e)
    · cases hok
    · obtain ⟨vs, h1, h2, h3⟩ := hr
      exact ⟨vs, h1, h2, fun i c u hc hu => rc (h3 i c u hc hu) (fun e => noGs_get (by simpa [PV.noG] using hg e) hc)⟩
    · obtain ⟨vs, h1, h2, h3⟩ := hr
      exact ⟨vs, h1, h2, fun i c u hc hu => rc (h3 i c u hc hu) (fun e => noGs_get (by simpa [PV.noG] using hg e) hc)⟩
    · rename_i h3
      exact (rp (hr.repP (resOk_one hok (fun cs => h3 cs))) hg).repE
end
end Go.Lw
end

/-! New lists of zeros, and how they become boxes. -/
section
namespace Go.Lw
open Go Go.RowKit
section
variable {fi : FI} {M M' : Mem} {w w' : World} {P : Program} {s s' : St} {a : Act} {cf : CallF}
theorem flat_one {z : PV} (h : isFlat z = true) : z.cells = [z] ∧ z.one = true ∧ argOk z = true := by
  cases z <;> simp [isFlat] at h <;> exact ⟨rfl, rfl, rfl⟩
theorem flat_rep {z : PV} (h : isFlat z = true) : RepP fi M w z (flatV z) := by
  cases z <;> simp [isFlat] at h
  · exact .int _ _
  · exact .bool _
theorem flat_repv {z : PV} {v : Value} (h : isFlat z = true) (hr : RepP fi M w z v) : v = flatV z := by
  cases z <;> simp [isFlat] at h <;> cases hr <;> rfl
theorem sim_mkarr {o : Oper} {d z bytes : Nat} {zero : PV} {l : IX} (hI : Inv fi M w s a) (hm : mOp P fi (.mksl d true z bytes zero l) o.op = true) (hd : o.dst = some d) (hlt : d < a.tmps.size) (h : opStep cf s (.mkarr d z bytes zero l) = some s') : Sim P fi o M w s' a := by
  obtain ⟨dst, op, ty, pos, aft, gd⟩ := o
  cases op <;> simp [mOp] at hm
  rename_i t y y'
  obtain ⟨⟨⟨hx, hx'⟩, hb0⟩, hm⟩ := hm
  split at hm <;> try (cases hm; done)
  rename_i e hu
  split at hm <;> try (cases hm; done)
  rename_i i hi
  simp only [Bool.and_eq_true, beq_iff_eq] at hm
  obtain ⟨⟨hsz, hby⟩, hm⟩ := hm
  split at hm <;> try (cases hm; done)
  rename_i zv hzv
  simp only [Bool.and_eq_true, beq_iff_eq] at hm
  obtain ⟨hzc, hzs⟩ := hm
  simp only [opStep] at h
  split at h
  · rename_i k n hn
    split at h
    · rename_i hc
      obtain ⟨h0, hbd, rfl, hfl⟩ := hc
      cases h
      obtain ⟨f1, f2, f3⟩ := flat_one hfl
      have v1 := (evalX_sim hI hx hn).int
      have v2 := (evalX_sim hI hx' hn).int
      have hb1 : n * 1 ≤ n * (bytes : Int) := Int.mul_le_mul_of_nonneg_left (by omega) h0
      have hmx : (maxBytes : Int) = 140737488355328 := rfl
      have hrun := run_make (P := P) w t e i zv hu hi hzv k k n n h0 (Int.le_refl _) (by rw [hby, Int.mul_comm]; omega) (by omega)
      rw [hsz, Nat.mul_one] at hrun
      -- the zeros
      have hzv0 : ∃ u, zv.cells = #[u] ∧ u = flatV zero := by
        obtain ⟨vs, e1, e2, e3, _⟩ := (cOk_at (fi := fi) (M := M) (w := w) hzc Loc.lim).cells f3
        rw [f1] at e2 e3
        obtain ⟨u, rfl⟩ := List.length_eq_one_iff.1 e2
        refine ⟨u, by simpa using e1, ?_⟩
        have := (e3 0 zero u rfl rfl)
        have h2 : RepP fi M w zero u := by
          cases zero <;> simp [isFlat] at hfl <;> exact this
        exact flat_repv hfl h2
      obtain ⟨u, hzu, rfl⟩ := hzv0
      have hmade : madeCells zv.cells n.toNat = Array.replicate n.toNat (flatV zero) := by
        apply Array.ext'
        apply List.ext_getElem?
        intro j
        by_cases hj : j < n.toNat
        · rw [made_get _ _ _ hj, hzu]
          simp [hj, Nat.mod_one]
        · rw [List.getElem?_eq_none (by simp [madeCells]; omega), List.getElem?_eq_none (by simp; omega)]
      rw [hmade] at hrun
      let M1 : Mem := { M with own := fun b => if b = w.heap.size then some (Loc.env d 0) else M.own b }
      obtain ⟨g1, k1⟩ := Good.alloc hI (.cells (Array.replicate n.toNat (flatV zero)) e) M1 [] [] (by simp [M1]) (by simp [M1]) (by simp) (by simp) (fun _ => False) (by simp [M1]) (fun b hb => by simp [M1, hb])
      generalize hW : w.alloc (.cells (Array.replicate n.toNat (flatV zero)) e) = W at *
      have hI1 : Inv fi M1 W s a := by
        refine ⟨fun t u hu => ⟨(hI.env t u hu).1, (hI.env t u hu).2.good g1 (by simp)⟩, hI.defers, hI.lbl, hI.gbl, hI.nodup, fun i cs blk h1 h2 => (hI.lh i cs blk h1 h2).good g1 (by simp) (by simp),
          fun i o blk h1 h2 => (hI.gh i o blk h1 h2).good g1 (by simp) (by simp), g1.ext.gl hI.gl, fun b k hb => Nat.lt_of_lt_of_le (hI.immlt b k hb) k1.size, fun b l hb => ?_, fun b hb => Nat.lt_of_lt_of_le (hI.gblt b hb) k1.size⟩
        simp only [M1] at hb
        split at hb
        · rename_i hbe; subst hbe; rw [← hW, size_alloc']; omega
        · exact Nat.lt_of_lt_of_le (hI.ownlt b l hb) k1.size
      refine ⟨_, .slice (some ⟨w.heap.size, 0, none⟩) n.toNat n.toNat, M1, W, ?_, .inl rfl, ?_, k1⟩
      · simp only [execOp, v1, v2, Sem.run_bind, hrun]; rfl
      · rw [show dst = some d from hd]
        refine hI1.put hlt ?_
        refine ⟨hfl, w.heap.size, e, n.toNat, rfl, Nat.le_refl _, by simp [M1], by rw [← hW]; exact heap_alloc_new w _, fun k hk => absurd (hI.immlt _ k hk) (by omega), fun hk => absurd (lb_lt hI _ hk) (by omega), fun hk => absurd (hI.gblt _ hk) (by omega)⟩
    · cases h
  · cases h
theorem Inv.adopt1 (hI : Inv fi M w s a) {t : Nat} {z : PV} {n : Nat} (ht : get s.env t = some (.arr z n)) :
    ∃ M', Inv fi M' w ⟨Lw.put s.env t (.bs true s.gh.length 0 n 1), s.lh, s.gh ++ [.cells (List.replicate n z)]⟩ a ∧ Kp M w M' w := by
  obtain ⟨htl, hfl, b, T, c, hv, hc, ho, hh, hk, hb1, hb2⟩ := hI.env t _ ht
  obtain ⟨f1, f2, f3⟩ := flat_one hfl
  have hbl : b < w.heap.size := hI.ownlt b _ ho
  let M' : Mem := { M with gb := M.gb ++ [b], own := fun k => if k = b then none else M.own k }
  have hext : Ext M w M' w := ⟨fun i k h => by
      show (M.gb ++ [b])[i]? = some k
      rw [List.getElem?_append_left (List.getElem?_eq_some_iff.1 h).1]; exact h, fun _ _ h => h, fun _ _ _ => rfl, fun _ _ => ⟨Nat.le_refl _, fun _ => rfl⟩⟩
  have hG : Good M w M' w (fun l => l = Loc.env t 0) (fun _ => False) := by
    refine ⟨hext, Nat.le_refl _, fun _ _ h => h, fun k l h hl => ?_, fun k hk1 _ h => ?_, fun _ _ => rfl⟩
    · have hkb : k ≠ b := fun e => hl (by subst e; rw [ho] at h; cases h; rfl)
      refine ⟨by simp only [M', if_neg hkb]; exact h, rfl, fun _ h => h, fun h => h, fun h1 h2 => ?_⟩
      rcases List.mem_append.1 (show k ∈ M.gb ++ [b] from h2) with h3 | h3
      · exact h1 h3
      · exact hkb (List.mem_singleton.1 h3)
    · exact ⟨rfl, fun _ h => h, by simp only [M']; split <;> first | rfl | exact h⟩
  have hK : Kp M w M' w := by
    refine ⟨rfl, rfl, rfl, Nat.le_refl _, hext, fun _ _ _ _ _ => rfl, fun _ h => .inl h, fun k h => ?_, fun k _ h => ?_, fun _ _ h => .inl h⟩
    · rcases List.mem_append.1 (show k ∈ M.gb ++ [b] from h) with h3 | h3
      · exact .inl h3
      · rw [List.mem_singleton.1 h3]
        exact .inr (.inr (by rw [ho]; simp))
    · simp only [M']; split <;> first | rfl | exact h
  refine ⟨M', ⟨fun t2 v hv2 => ?_, hI.defers, hI.lbl, by simp [M', hI.gbl], ?_, fun i cs blk h1 h2 => (hI.lh i cs blk h1 h2).good hG (by simp) (fun j h => by cases h), fun i o blk h1 h2 => ?_, hext.gl hI.gl, hI.immlt, fun k l h => ?_, fun k h => ?_⟩, hK⟩
  · simp only [get_put] at hv2
    split at hv2
    · rename_i he
      subst he
      cases hv2
      refine ⟨htl, RepE.repAt (RepP.repE ?_)⟩
      rw [hv]
      exact .bs _ _ _ _ _ _ b (by simp [M', ← hI.gbl]) (.inr rfl) hc
    · rename_i he
      refine ⟨(hI.env t2 v hv2).1, (hI.env t2 v hv2).2.good hG (fun i h => ?_)⟩
      injection h with h1 h2
      exact he h1.symm
  · show (M.lb ++ (M.gb ++ [b])).Nodup
    rw [← List.append_assoc]
    exact nodup_snoc hI.nodup (by rw [List.mem_append, not_or]; exact ⟨hb1, hb2⟩)
  · have h2' : (M.gb ++ [b])[i]? = some blk := h2
    by_cases hlt : i < s.gh.length
    · rw [List.getElem?_append_left hlt] at h1
      rw [List.getElem?_append_left (by rw [hI.gbl]; exact hlt)] at h2'
      exact (hI.gh i o blk h1 h2').good hG (by simp) (fun j h => by cases h)
    · have hil := (List.getElem?_eq_some_iff.1 h1).1
      simp at hil
      obtain rfl : i = s.gh.length := by omega
      simp at h1
      subst h1
      rw [List.getElem?_append_right (by rw [hI.gbl]; exact Nat.le_refl _), hI.gbl] at h2'
      simp at h2'; subst h2'
      refine ⟨hbl, hk, by simp [M'], fun x hx => by rw [List.eq_of_mem_replicate hx]; exact f2, List.replicate n (flatV z), T, by rw [hh]; congr 1, by simp, fun j x u hx hu => ?_⟩
      rw [List.getElem?_replicate] at hx hu
      split at hx
      · cases hx
        rw [if_pos (by assumption)] at hu
        cases hu
        exact (flat_rep hfl).repC
      · cases hx
  · simp only [M'] at h
    split at h
    · cases h
    · exact hI.ownlt k l h
  · rcases List.mem_append.1 (show k ∈ M.gb ++ [b] from h) with h3 | h3
    · exact hI.gblt k h3
    · rw [List.mem_singleton.1 h3]; exact hbl
theorem Inv.adopt : ∀ {l : List Nat} {s : St} {M : Mem}, Inv fi M w s a → ∃ M', Inv fi M' w (Lw.adopt l s) a ∧ Kp M w M' w
  | [], s, M, hI => ⟨M, hI, Kp.refl M w⟩
  | t :: l, s, M, hI => by
    unfold Lw.adopt
    split
    · rename_i z n ht
      obtain ⟨M1, h1, k1⟩ := hI.adopt1 ht
      obtain ⟨M2, h2, k2⟩ := Inv.adopt (l := l) h1
      exact ⟨M2, h2, k1.trans k2⟩
    · exact Inv.adopt hI
theorem sim_buildA {o : Oper} {d : Nat} {z : List PV} {ps : List (Nat × Nat × IX)} (hI : Inv fi M w s a) (hm : mOp P fi (.buildT d z ps) o.op = true) (hd : o.dst = some d) (hlt : ∀ e, opDst (.buildA d z ps) = some e → e < a.tmps.size) (h : opStep cf s (.buildA d z ps) = some s') : Sim P fi o M w s' a := by
  obtain ⟨M1, h1, k1⟩ := hI.adopt (l := ps.flatMap fun p => slotX p.2.2)
  obtain ⟨r, v, M2, w2, e1, e2, e3, e4⟩ := sim_buildT (cf := cf) (s' := s') ⟨h1, hm, hd, hlt⟩ h
  exact ⟨r, v, M2, w2, e1, e2, e3, k1.trans e4⟩
end
end Go.Lw
end

/-! The checker of proofs: what it holds, and a number put in. -/
section
namespace Go.Lw
open Go
def mapT (l : List Int) : List (PV × PV) := l.map fun a => (I a, B true)
theorem mfind_mapT (l : List Int) (k : Int) : mfind 0 (mapT l) (I k) = some (if k ∈ l then some (B true) else none) := by
  induction l with
  | nil => rfl
  | cons a l ih =>
    have ih' : mfind 0 (l.map fun a => (I a, B true)) (I k) = some (if k ∈ l then some (B true) else none) := ih
    by_cases h : k = a
    · simp [mapT, mfind, sameKey, h]
    · simp [mapT, mfind, sameKey, beq_false_of_ne h, h, ih']
theorem mset_mapT {l : List Int} {k : Int} (hk : k ∉ l) : mset 0 (mapT l) (I k) (B true) = some (mapT (l ++ [k])) := by
  induction l with
  | nil => rfl
  | cons a l ih =>
    have h : k ≠ a := fun e => hk (by simp [e])
    have ih' : mset 0 (l.map fun a => (I a, B true)) (I k) (B true) = some (mapT (l ++ [k])) := ih (fun hm => hk (by simp [hm]))
    simp [mapT, mset, sameKey, beq_false_of_ne h, h] at ih' ⊢
    exact ih'
def mapP (l : List (Int × PV)) : List (PV × PV) := l.map fun a => (I a.1, a.2)
def findP : List (Int × PV) → Int → Option PV
  | [], _ => none
  | (a, v) :: l, k => if k = a then some v else findP l k
def setP : List (Int × PV) → Int → PV → List (Int × PV)
  | [], k, v => [(k, v)]
  | (a, u) :: l, k, v => if k = a then (k, v) :: l else (a, u) :: setP l k v
theorem mfind_mapP (l : List (Int × PV)) (k : Int) : mfind 0 (mapP l) (I k) = some (findP l k) := by
  induction l with
  | nil => rfl
  | cons x l ih =>
    obtain ⟨a, v⟩ := x
    have ih' : mfind 0 (l.map fun a => (I a.1, a.2)) (I k) = some (findP l k) := ih
    by_cases h : k = a
    · simp [mapP, mfind, findP, sameKey, h]
    · simp [mapP, mfind, findP, sameKey, beq_false_of_ne h, h, ih']
theorem mset_mapP (l : List (Int × PV)) (k : Int) (v : PV) : mset 0 (mapP l) (I k) v = some (mapP (setP l k v)) := by
  induction l with
  | nil => rfl
  | cons x l ih =>
    obtain ⟨a, u⟩ := x
    have ih' : mset 0 (l.map fun a => (I a.1, a.2)) (I k) v = some (mapP (setP l k v)) := ih
    by_cases h : k = a
    · simp [mapP, mset, setP, sameKey, h]
    · simp [mapP, mset, setP, sameKey, beq_false_of_ne h, h, ih']
theorem findP_setP (l : List (Int × PV)) (k : Int) (v : PV) (n : Int) : findP (setP l k v) n = if n = k then some v else findP l n := by
  induction l with
  | nil => simp [setP, findP]
  | cons x l ih =>
    obtain ⟨a, u⟩ := x
    unfold setP
    by_cases h : k = a
    · subst h
      rw [if_pos rfl]
      unfold findP
      by_cases hn : n = k <;> simp [hn]
    · rw [if_neg h]
      unfold findP
      by_cases hn : n = a
      · subst hn
        simp [Ne.symm h]
      · rw [if_neg hn, if_neg hn, ih]
inductive Role where
  | no
  | of (n : Int)
  | cl (i : Nat)
  deriving DecidableEq
def OfN (R : Nat → Role) (gh : List GObj) (n : Int) (l : List Nat) : Option PV → Prop
  | none => l = []
  | some h => ∃ b gen, h = .stk b gen l.length ∧ R b = .of n ∧ gh[b]? = some (.stk gen (l.map fun (i : Nat) => I i))
def ClN (R : Nat → Role) (gh : List GObj) (i : Nat) (k : List Int) (h : PV) : Prop :=
  (k = [] ∧ h = .sl false 1 []) ∨ ∃ b gen, h = .stk b gen k.length ∧ R b = .cl i ∧ gh[b]? = some (.stk gen (k.map I))
structure Stat (R : Nat → Role) (gh : List GObj) (a : Nat) (F : List (Int × PV)) (H : List PV) (K : List (List Int)) (X : Int → List Nat) : Prop where
  lt : ∀ b, R b ≠ .no → b < gh.length
  ra : R a = .no
  hl : H.length = K.length
  cl : ∀ (i : Nat) (h : PV) (k : List Int), H[i]? = some h → K[i]? = some k → ClN R gh i k h
  map : gh[a]? = some (.map (mapP F))
  of : ∀ n, OfN R gh n (X n) (findP F n)
theorem Stat.keep {R : Nat → Role} {gh gh' : List GObj} {a : Nat} {F : List (Int × PV)} {H : List PV} {K : List (List Int)} {X : Int → List Nat} (h : Stat R gh a F H K X) (hl : gh.length ≤ gh'.length)
    (hk : ∀ b, b < gh.length → R b ≠ .no ∨ b = a → gh'[b]? = gh[b]?) : Stat R gh' a F H K X where
  lt := fun b hb => Nat.lt_of_lt_of_le (h.lt b hb) hl
  ra := h.ra
  hl := h.hl
  cl := fun i v k h1 h2 => by
    rcases h.cl i v k h1 h2 with h3 | ⟨b, gen, h3, h4, h5⟩
    · exact .inl h3
    · exact .inr ⟨b, gen, h3, h4, by rw [hk b (List.getElem?_eq_some_iff.1 h5).1 (.inl (by rw [h4]; simp))]; exact h5⟩
  map := by rw [hk a (List.getElem?_eq_some_iff.1 h.map).1 (.inr rfl)]; exact h.map
  of := fun n => by
    have := h.of n
    unfold OfN at *
    split at this
    · exact this
    · obtain ⟨b, gen, h3, h4, h5⟩ := this
      exact ⟨b, gen, h3, h4, by rw [hk b (List.getElem?_eq_some_iff.1 h5).1 (.inl (by rw [h4]; simp))]; exact h5⟩
def Td (R : Nat → Role) (gh : List GObj) (v : PV) (D : List Int) : Prop :=
  (v = .nils ∧ D = []) ∨ ∃ b gen ys, v = .stk b gen D.length ∧ R b = .no ∧ gh[b]? = some (.stk gen ys) ∧ D.length ≤ ys.length ∧ ys.take D.length = D.map I
abbrev boxP (H : List PV) (a s : Nat) (v : PV) : GObj := .cells [.sl true 1 H, .mp a, .mp s, v]
structure Chk (R : Nat → Role) (gh : List GObj) (g a s : Nat) (F : List (Int × PV)) (H : List PV) (K : List (List Int)) (X : Int → List Nat) (T D : List Int) : Prop where
  st : Stat R gh a F H K X
  rg : R g = .no
  rs : R s = .no
  as : s ≠ a
  so : gh[s]? = some (.map (mapT T))
  td : ∃ v, gh[g]? = some (boxP H a s v) ∧ Td R gh v D
section
variable {R : Nat → Role} {gh : List GObj} {g a s : Nat} {F : List (Int × PV)} {H : List PV} {K : List (List Int)} {X : Int → List Nat} {T D : List Int} {n : Int}
theorem set_get {α : Type} {l : List α} {i j : Nat} {x : α} : (l.set i x)[j]? = if i = j then (if j < l.length then some x else none) else l[j]? := by
  rw [List.getElem?_set]
  by_cases h : i = j
  · subst h; simp
  · simp [h]
theorem put_no (h : Chk R gh g a s F H K X T D) (hn : -n ∈ T) (hb : InI (-n)) : callL pg 158 [.ptr true g 0, I n] gh = some (B false, gh) := by
  obtain ⟨v, hg, _⟩ := h.td
  have hs := h.so
  have hf := mfind_mapT T (-n)
  rw [if_pos hn] at hf
  have hw : IntKind.i64.wrap (-n) = -n := wrap_id hb.1 hb.2
  refine callL_fn (fn := f_proof_checker_put) (s := ?s1) rfl rfl (D_proof_checker_put_0_ok ?h1) ?r1
  case h1 => simp [D_proof_checker_put_0, hg, hs, hf, hw, mfind_mapT]; rfl
  case r1 => simp [finish, results, f_proof_checker_put, resOfs, resOf, get, resOk]
theorem put_has (h : Chk R gh g a s F H K X T D) (hn : n ∈ T) (hm : -n ∉ T) (hb : InI (-n)) : callL pg 158 [.ptr true g 0, I n] gh = some (B true, gh) := by
  obtain ⟨v, hg, _⟩ := h.td
  have hs := h.so
  have hf := mfind_mapT T (-n)
  have hf2 := mfind_mapT T n
  rw [if_neg hm] at hf
  rw [if_pos hn] at hf2
  have hw : IntKind.i64.wrap (-n) = -n := wrap_id hb.1 hb.2
  refine callL_fn (fn := f_proof_checker_put) (s := ?s1) rfl rfl (D_proof_checker_put_0_ok ?h1) ?r1
  case h1 =>
    simp [D_proof_checker_put_0, hg, hs, hf, hf2, hw]
    rw [D_proof_checker_put_k1_ok rfl]; rfl
  case r1 => simp [finish, results, f_proof_checker_put, resOfs, resOf, get, resOk]
theorem get_lt {α : Type} {l : List α} {i : Nat} {x : α} (h : l[i]? = some x) : i < l.length := (List.getElem?_eq_some_iff.1 h).1
theorem get_app {α : Type} {l m : List α} {i : Nat} {x : α} (h : l[i]? = some x) : (l ++ m)[i]? = some x := by
  rw [List.getElem?_append_left (get_lt h)]; exact h
theorem put_new (h : Chk R gh g a s F H K X T D) (hn : n ∉ T) (hm : -n ∉ T) (hb : InI (-n)) (hB : (D.length + 1) * 8 ≤ maxBytes) :
    ∃ gh', callL pg 158 [.ptr true g 0, I n] gh = some (B true, gh') ∧ Chk R gh' g a s F H K X (T ++ [n]) (D ++ [n]) ∧ gh.length ≤ gh'.length := by
  obtain ⟨v, hg, htd⟩ := h.td
  have hs := h.so
  have hf := mfind_mapT T (-n)
  have hf2 := mfind_mapT T n
  have hset := mset_mapT hn
  rw [if_neg hm] at hf
  rw [if_neg hn] at hf2
  have hw : IntKind.i64.wrap (-n) = -n := wrap_id hb.1 hb.2
  have hgl := get_lt hg
  have hsl := get_lt hs
  have hgs : g ≠ s := fun e => by rw [e, hs] at hg; cases hg
  have hga : g ≠ a := fun e => by rw [e, h.st.map] at hg; cases hg
  have hg1 : (gh.set s (.map (mapT (T ++ [n]))))[g]? = some (boxP H a s v) := by rw [set_get, if_neg (Ne.symm hgs)]; exact hg
  have hmx : maxBytes = 140737488355328 := rfl
  rcases htd with ⟨rfl, rfl⟩ | ⟨b, gen, ys, rfl, hRb, hb1, hb2, hb3⟩
  · refine ⟨((gh.set s (.map (mapT (T ++ [n])))) ++ [GObj.stk 0 [I n]]).set g (boxP H a s (.stk gh.length 0 1)), ?_, ⟨?_, h.rg, h.rs, h.as, ?_, ⟨.stk gh.length 0 1, ?_, .inr ⟨gh.length, 0, [I n], rfl, ?_, ?_, by simp, by simp⟩⟩⟩, by simp⟩
    · have hg2 : ((gh.set s (.map (mapT (T ++ [n])))) ++ [GObj.stk 0 [I n]])[g]? = some (boxP H a s .nils) := get_app hg1
      have hln : (gh.set s (.map (mapT (T ++ [n])))).length = gh.length := by simp
      refine callL_fn (fn := f_proof_checker_put) (s := ?s1) rfl rfl (D_proof_checker_put_0_ok ?h1) ?r1
      case h1 =>
        simp [D_proof_checker_put_0, hg, hs, hf, hf2, hw, hset, hg1, hg2, elsOf, isFlat, hmx, spliceAt, -List.length_set, hln]
        rw [D_proof_checker_put_k1_ok rfl]; rfl
      case r1 => simp [finish, results, f_proof_checker_put, resOfs, resOf, get, resOk]
    · refine h.st.keep (by simp) (fun b hbl hb => ?_)
      have h1 : g ≠ b := fun e => by subst e; exact hb.elim (fun h2 => h2 h.rg) hga
      have h2 : s ≠ b := fun e => by subst e; exact hb.elim (fun h2 => h2 h.rs) h.as
      rw [set_get, if_neg h1, List.getElem?_append_left (by simpa using hbl), set_get, if_neg h2]
    · rw [set_get, if_neg hgs, List.getElem?_append_left (by simpa using hsl), set_get, if_pos rfl, if_pos hsl]
    · rw [set_get, if_pos rfl, if_pos (by simp; omega)]
    · exact Classical.byContradiction fun hr => absurd (h.st.lt gh.length hr) (by omega)
    · have : g ≠ gh.length := by omega
      rw [set_get, if_neg this, List.getElem?_append_right (by simp)]
      simp
  · have hbl := get_lt hb1
    have hbg : b ≠ g := fun e => by rw [e, hg] at hb1; cases hb1
    have hbs : b ≠ s := fun e => by rw [e, hs] at hb1; cases hb1
    have hba : b ≠ a := fun e => by rw [e, h.st.map] at hb1; cases hb1
    have hb4 : (gh.set s (.map (mapT (T ++ [n]))))[b]? = some (.stk gen ys) := by rw [set_get, if_neg (Ne.symm hbs)]; exact hb1
    refine ⟨((gh.set s (.map (mapT (T ++ [n])))).set b (.stk (gen + 1) (ys.take D.length ++ [I n]))).set g (boxP H a s (.stk b (gen + 1) (D.length + 1))), ?_, ⟨?_, h.rg, h.rs, h.as, ?_, ⟨.stk b (gen + 1) (D.length + 1), ?_, .inr ⟨b, gen + 1, ys.take D.length ++ [I n], by simp, hRb, ?_, ?_, ?_⟩⟩⟩, by simp⟩
    · have hg2 : ((gh.set s (.map (mapT (T ++ [n])))).set b (.stk (gen + 1) (ys.take D.length ++ [I n])))[g]? = some (boxP H a s (.stk b gen D.length)) := by rw [set_get, if_neg hbg]; exact hg1
      generalize hG : gh.set s (.map (mapT (T ++ [n]))) = G1 at *
      generalize hG2 : G1.set b (.stk (gen + 1) (ys.take D.length ++ [I n])) = G2 at *
      refine callL_fn (fn := f_proof_checker_put) (s := ?s2) rfl rfl (D_proof_checker_put_0_ok ?h2) ?r2
      case h2 =>
        simp [D_proof_checker_put_0, hg, hs, hf, hf2, hw, hset, hG, hg1, hG2, hg2, hb4, hb2, hB, ghStk, apart, elsOf, isFlat, spliceAt]
        rw [D_proof_checker_put_k1_ok rfl]; rfl
      case r2 => simp [finish, results, f_proof_checker_put, resOfs, resOf, get, resOk]
    · refine h.st.keep (by simp) (fun c _ hc => ?_)
      have h1 : g ≠ c := fun e => by subst e; exact hc.elim (fun h2 => h2 h.rg) hga
      have h2 : s ≠ c := fun e => by subst e; exact hc.elim (fun h2 => h2 h.rs) h.as
      have h3 : b ≠ c := fun e => by subst e; exact hc.elim (fun h2 => h2 hRb) hba
      rw [set_get, if_neg h1, set_get, if_neg h3, set_get, if_neg h2]
    · rw [set_get, if_neg hgs, set_get, if_neg hbs, set_get, if_pos rfl, if_pos hsl]
    · rw [set_get, if_pos rfl, if_pos (by simp; omega)]
    · rw [set_get, if_neg (Ne.symm hbg), set_get, if_pos rfl, if_pos (by simp; omega)]
    · simp; omega
    · have hl : (ys.take D.length).length = D.length := by rw [List.length_take]; omega
      rw [List.length_append, List.length_singleton, List.take_of_length_le (by simp; omega), hb3, List.map_append]
      rfl
end
end Go.Lw
end

/-! The checker of proofs: what a clause asks for. -/
section
namespace Go.Lw
open Go
def scanP (T : List Int) : Int → Nat → List Int → Option (Int × Nat)
  | l, m, [] => some (l, m)
  | l, m, n :: c => if n ∈ T then none else if -n ∈ T then scanP T l m c else scanP T n (m + 1) c
def frF (T : List Int) (n : Int) : Bool := decide (n ∉ T ∧ -n ∉ T)
theorem scanP_eq {T : List Int} : ∀ (c : List Int) (l : Int) (m : Nat),
    (c.any (fun n => decide (n ∈ T)) = true → scanP T l m c = none) ∧
    (c.any (fun n => decide (n ∈ T)) = false → ∃ l', scanP T l m c = some (l', m + (c.filter (frF T)).length) ∧ (c.filter (frF T) = [] → l' = l) ∧ ∀ x, c.filter (frF T) = [x] → l' = x)
  | [], l, m => ⟨fun h => by simp at h, fun _ => ⟨l, by simp [scanP], fun _ => rfl, fun x h => by simp at h⟩⟩
  | n :: c, l, m => by
    by_cases h1 : n ∈ T
    · refine ⟨fun _ => by simp [scanP, h1], fun h => ?_⟩
      simp [h1] at h
    · by_cases h2 : -n ∈ T
      · have ih := scanP_eq (T := T) c l m
        have e : (n :: c).filter (frF T) = c.filter (frF T) := by simp [frF, h2]
        rw [e]
        have e2 : scanP T l m (n :: c) = scanP T l m c := by simp [scanP, h1, h2]
        rw [e2]
        have e3 : (n :: c).any (fun n => decide (n ∈ T)) = c.any (fun n => decide (n ∈ T)) := by simp [h1]
        rw [e3]
        exact ih
      · have ih := scanP_eq (T := T) c n (m + 1)
        have e : (n :: c).filter (frF T) = n :: c.filter (frF T) := by simp [frF, h1, h2]
        have e2 : scanP T l m (n :: c) = scanP T n (m + 1) c := by simp [scanP, h1, h2]
        have e3 : (n :: c).any (fun n => decide (n ∈ T)) = c.any (fun n => decide (n ∈ T)) := by simp [h1]
        rw [e, e2, e3]
        refine ⟨ih.1, fun h => ?_⟩
        obtain ⟨l', i1, i2, i3⟩ := ih.2 h
        refine ⟨l', by rw [i1, List.length_cons]; congr 2; omega, fun h => by simp at h, fun x h => ?_⟩
        injection h with h4 h5
        rw [← h4]; exact i2 h5
section
variable {R : Nat → Role} {gh : List GObj} {g a s : Nat} {F : List (Int × PV)} {H : List PV} {K : List (List Int)} {X : Int → List Nat} {T D : List Int} {n : Int}
abbrev mustSt (g : Nat) (l : Int) (m : Nat) (v : PV) (n i : Nat) (gh : List GObj) : St := ⟨[(0, .ptr true g 0), (5, I l), (6, I m), (9, v), (10, I n), (11, I i)], [], gh⟩
def mustE (g : Nat) (gh : List GObj) : Option (Int × Nat) → IExit × St
  | none => (.ret, ⟨[(4, B true)], [], gh⟩)
  | some (l, m) => (.normal, ⟨[(0, .ptr true g 0), (5, I l), (6, I m)], [], gh⟩)
theorem must_loop (h : Chk R gh g a s F H K X T D) {b gen : Nat} {c : List Int} (hb : gh[b]? = some (.stk gen (c.map I))) (hc : ∀ n ∈ c, InI (-n)) (hs : Sz c.length) : ∀ (k i : Nat) (l : Int) (m : Nat), i + k = c.length → m ≤ i →
    runL pg f_proof_checker_must_l1 (mustSt g l m (.stk b gen c.length) c.length i gh) = some (mustE g gh (scanP T l m (c.drop i))) := by
  obtain ⟨v, hg, _⟩ := h.td
  have hso := h.so
  intro k
  induction k with
  | zero =>
    intro i l m hi hm
    have : i = c.length := by omega
    subst this
    rw [List.drop_length, scanP]
    have hlt : ¬ (c.length : Int) < (c.length : Int) := by omega
    refine (lp_exit (s1 := ?s1) (D_proof_checker_must_b1_ok ?h1)).trans ?r1
    case h1 => simp [D_proof_checker_must_b1, hlt]; rfl
    case r1 => simp [keep, stays, mustE]
  | succ k ih =>
    intro i l m hi hm
    have hil : i < c.length := by omega
    obtain ⟨n, hn⟩ : ∃ n, c[i]? = some n := ⟨c[i], List.getElem?_eq_getElem hil⟩
    have hd : c.drop i = n :: c.drop (i + 1) := by
      rw [List.drop_eq_getElem_cons hil]
      rw [List.getElem?_eq_getElem hil] at hn
      rw [Option.some.inj hn]
    have hnm : n ∈ c := List.mem_of_getElem? hn
    have hx : (c.map I)[i]? = some (I n) := by rw [List.getElem?_map, hn]; rfl
    have hltI : (i : Int) < (c.length : Int) := by omega
    have hw : IntKind.i64.wrap (-n) = -n := wrap_id (hc n hnm).1 (hc n hnm).2
    have hwi : IntKind.i64.wrap ((i : Int) + 1) = (i : Int) + 1 := wrap_nat (by simp only [Sz] at *; omega)
    have hwm : IntKind.i64.wrap ((m : Int) + 1) = (m : Int) + 1 := wrap_nat (by simp only [Sz] at *; omega)
    have k1 : ∀ l m : Int, runL pg f_proof_checker_must_k1 ⟨[(0, .ptr true g 0), (5, I l), (6, I m), (9, .stk b gen c.length), (10, I c.length), (11, I i)], [], gh⟩ = some (.normal, ⟨[(0, .ptr true g 0), (5, I l), (6, I m), (9, .stk b gen c.length), (10, I c.length), (11, I ((i : Int) + 1))], [], gh⟩) := fun l m =>
      D_proof_checker_must_k1_ok (by simp [D_proof_checker_must_k1, hwi])
    have hf := mfind_mapT T n
    have hf2 := mfind_mapT T (-n)
    rw [hd, scanP]
    by_cases h1 : n ∈ T
    · rw [if_pos h1] at hf ⊢
      refine lp_ret (D_proof_checker_must_b1_ok ?h2)
      case h2 => simp [D_proof_checker_must_b1, hltI, hb, hx, stkGet, hg, hso, hf, mustE, -List.getElem?_map]
    · rw [if_neg h1] at hf ⊢
      by_cases h2 : -n ∈ T
      · rw [if_pos h2] at hf2 ⊢
        refine lp_next (s1 := mustSt g l m (.stk b gen c.length) c.length (i + 1) gh) (D_proof_checker_must_b1_ok ?h3) (ih (i + 1) l m (by omega) (by omega))
        case h3 =>
          simp [D_proof_checker_must_b1, hltI, hb, hx, stkGet, hg, hso, hf, hf2, hw, k1, keep, stays, -List.getElem?_map]
      · rw [if_neg h2] at hf2 ⊢
        refine lp_next (s1 := mustSt g n (m + 1) (.stk b gen c.length) c.length (i + 1) gh) (D_proof_checker_must_b1_ok ?h5) (ih (i + 1) n (m + 1) (by omega) (by omega))
        case h5 =>
          simp [D_proof_checker_must_b1, hltI, hb, hx, stkGet, hg, hso, hf, hf2, hw, hwm, k1, keep, stays, -List.getElem?_map]
theorem must_k2_0 {l : Int} : runL pg f_proof_checker_must_k2 ⟨[(0, .ptr true g 0), (5, I l), (6, I 0)], [], gh⟩ = some (.ret, ⟨[(4, B false)], [], gh⟩) :=
  D_proof_checker_must_k2_ok (by simp [D_proof_checker_must_k2])
theorem must_k2_2 {l : Int} {m : Nat} (hm : 2 ≤ m) : runL pg f_proof_checker_must_k2 ⟨[(0, .ptr true g 0), (5, I l), (6, I m)], [], gh⟩ = some (.ret, ⟨[(4, B true)], [], gh⟩) := by
  have h0 : ¬ (m : Int) = 0 := by omega
  have h1 : ¬ (m : Int) = 1 := by omega
  exact D_proof_checker_must_k2_ok (by simp only [D_proof_checker_must_k2, beqI, h0, h1, decide_false, br_false])
theorem must_k2_1 {l : Int} {gh' : List GObj} {b : Bool} (hp : callL pg 158 [.ptr true g 0, I l] gh = some (B b, gh')) : runL pg f_proof_checker_must_k2 ⟨[(0, .ptr true g 0), (5, I l), (6, I 1)], [], gh⟩ = some (.ret, ⟨[(4, B b)], [], gh'⟩) :=
  D_proof_checker_must_k2_ok (by simp [D_proof_checker_must_k2, hp])
theorem must_fin {b gen : Nat} {c : List Int} {e : IExit × St} (hl : runL pg f_proof_checker_must_l1 (mustSt g 0 0 (.stk b gen c.length) c.length 0 gh) = some (mustE g gh (scanP T 0 0 c))) {r : Bool} {gh' : List GObj}
    (he : match scanP T 0 0 c with | none => r = true ∧ gh' = gh | some (l, m) => runL pg f_proof_checker_must_k2 ⟨[(0, .ptr true g 0), (5, I l), (6, I m)], [], gh⟩ = some (.ret, ⟨[(4, B r)], [], gh'⟩)) :
    callL pg 159 [.ptr true g 0, .stk b gen c.length] gh = some (B r, gh') := by
  refine callL_fn (fn := f_proof_checker_must) (s := ⟨[(4, B r)], [], gh'⟩) rfl rfl (D_proof_checker_must_0_ok ?h1) ?r1
  case h1 =>
    unfold mustSt at hl
    cases hs : scanP T 0 0 c with
    | none =>
      rw [hs] at hl he
      obtain ⟨rfl, rfl⟩ := he
      simp only [mustE] at hl
      simp [D_proof_checker_must_0] at hl ⊢
      rw [hl]
      simp
    | some p =>
      obtain ⟨l, m⟩ := p
      rw [hs] at hl he
      simp only [mustE] at hl he
      simp [D_proof_checker_must_0] at hl ⊢
      rw [hl]
      simp [he]
  case r1 => simp [finish, results, f_proof_checker_must, resOfs, resOf, get, resOk]
theorem must_nil : callL pg 159 [.ptr true g 0, .sl false 1 []] gh = some (B false, gh) := by
  have hl : runL pg f_proof_checker_must_l1 ⟨[(0, .ptr true g 0), (5, I 0), (6, I 0), (9, .sl false 1 []), (10, I 0), (11, I 0)], [], gh⟩ = some (.normal, ⟨[(0, .ptr true g 0), (5, I 0), (6, I 0)], [], gh⟩) := by
    refine (lp_exit (s1 := ?s1) (D_proof_checker_must_b1_ok ?h1)).trans ?r1
    case h1 => simp [D_proof_checker_must_b1]; rfl
    case r1 => simp [keep, stays]
  have hk := must_k2_0 (g := g) (gh := gh) (l := 0)
  refine callL_fn (fn := f_proof_checker_must) (s := ⟨[(4, B false)], [], gh⟩) rfl rfl (D_proof_checker_must_0_ok ?h2) ?r2
  case h2 => simp [D_proof_checker_must_0, hl, hk]
  case r2 => simp [finish, results, f_proof_checker_must, resOfs, resOf, get, resOk]
theorem must_eq (h : Chk R gh g a s F H K X T D) {i : Nat} {c : List Int} {v : PV} (hh : ClN R gh i c v) (hc : ∀ n ∈ c, InI (-n)) (hs : Sz c.length) (hB : (D.length + 1) * 8 ≤ maxBytes) :
    match mustT T c with
    | none => callL pg 159 [.ptr true g 0, v] gh = some (B false, gh)
    | some N => ∃ gh', callL pg 159 [.ptr true g 0, v] gh = some (B true, gh') ∧ Chk R gh' g a s F H K X (T ++ N) (D ++ N) ∧ gh.length ≤ gh'.length := by
  have same : ∀ {r : Bool}, callL pg 159 [.ptr true g 0, v] gh = some (B r, gh) → r = true → ∃ gh', callL pg 159 [.ptr true g 0, v] gh = some (B true, gh') ∧ Chk R gh' g a s F H K X (T ++ []) (D ++ []) ∧ gh.length ≤ gh'.length :=
    fun hr he => ⟨gh, by rw [hr, he], by rw [List.append_nil, List.append_nil]; exact h, Nat.le_refl _⟩
  rcases hh with ⟨rfl, rfl⟩ | ⟨b, gen, rfl, _, hb⟩
  · exact must_nil
  · have hl := must_loop h hb hc hs c.length 0 0 0 (by omega) (Nat.le_refl _)
    rw [List.drop_zero] at hl
    have hsc := scanP_eq (T := T) c 0 0
    unfold mustT
    cases ha : c.any (fun n => decide (n ∈ T)) with
    | true =>
      rw [if_pos rfl]
      have := hsc.1 ha
      refine same (must_fin (T := T) (e := (.ret, ⟨[], [], gh⟩)) (r := true) (gh' := gh) hl (by rw [this]; exact ⟨rfl, rfl⟩)) rfl
    | false =>
      rw [if_neg (by simp)]
      obtain ⟨l, h1, h2, h3⟩ := hsc.2 ha
      rw [Nat.zero_add] at h1
      have hfr : ∀ x, x ∈ c.filter (frF T) → x ∈ c ∧ x ∉ T ∧ -x ∉ T := fun x hx => by
        have := List.mem_filter.1 hx
        exact ⟨this.1, by simpa [frF] using this.2⟩
      show (match c.filter (frF T) with | [] => none | [x] => some [x] | _ => some []) |> fun r => match r with
        | none => callL pg 159 [.ptr true g 0, .stk b gen c.length] gh = some (B false, gh)
        | some N => ∃ gh', callL pg 159 [.ptr true g 0, .stk b gen c.length] gh = some (B true, gh') ∧ Chk R gh' g a s F H K X (T ++ N) (D ++ N) ∧ gh.length ≤ gh'.length
      generalize c.filter (frF T) = u at *
      match u, h1, h2, h3, hfr with
      | [], h1, h2, h3, hfr =>
        simp only
        refine must_fin (T := T) (e := (.ret, ⟨[], [], gh⟩)) (r := false) (gh' := gh) hl ?_
        rw [h1]
        exact must_k2_0
      | [x], h1, h2, h3, hfr =>
        simp only
        have hx := h3 x rfl
        subst hx
        obtain ⟨hxc, hxT, hxm⟩ := hfr l (by simp)
        obtain ⟨gh', p1, p2, p3⟩ := put_new h hxT hxm (hc l hxc) hB
        refine ⟨gh', must_fin (T := T) (e := (.ret, ⟨[], [], gh⟩)) (r := true) (gh' := gh') hl ?_, p2, p3⟩
        rw [h1]
        exact must_k2_1 p1
      | x :: y :: u, h1, h2, h3, hfr =>
        simp only
        refine same (must_fin (T := T) (e := (.ret, ⟨[], [], gh⟩)) (r := true) (gh' := gh) hl ?_) rfl
        rw [h1]
        exact must_k2_2 (by simp)
end
end Go.Lw
end

/-! The checker of proofs: does a clause follow? The first two rounds. -/
section
namespace Go.Lw
open Go
structure Idle (R : Nat → Role) (gh : List GObj) (g a : Nat) (F : List (Int × PV)) (H : List PV) (K : List (List Int)) (X : Int → List Nat) : Prop where
  st : Stat R gh a F H K X
  rg : R g = .no
  bx : ∃ v w, gh[g]? = some (.cells [.sl true 1 H, .mp a, v, w])
def Small (n : Int) : Prop := n ≠ 0 ∧ -1000000000 ≤ n ∧ n ≤ 1000000000
theorem Small.inI {n : Int} (h : Small n) : InI n := ⟨by have := h.2.1; omega, by have := h.2.2; omega⟩
theorem Small.neg {n : Int} (h : Small n) : Small (-n) := ⟨by have := h.1; omega, by have := h.2.2; omega, by have := h.2.1; omega⟩
section
variable {R : Nat → Role} {gh : List GObj} {g a s : Nat} {F : List (Int × PV)} {H : List PV} {K : List (List Int)} {X : Int → List Nat} {T D : List Int} {n : Int}
theorem Chk.idle (h : Chk R gh g a s F H K X T D) : Idle R gh g a F H K X :=
  ⟨h.st, h.rg, by obtain ⟨v, h1, _⟩ := h.td; exact ⟨_, _, h1⟩⟩
abbrev f1St (g : Nat) (l : List Int) (i : Nat) (gh : List GObj) : St := ⟨[(0, .ptr true g 0), (19, LI l), (20, I l.length), (21, I i)], [], gh⟩
theorem foll_l1 {l : List Int} (hl : ∀ n ∈ l, Small n) (hs : (l.length + 1) * 8 ≤ maxBytes) : ∀ (k i : Nat) (T : List Int) (gh : List GObj), i + k = l.length → Chk R gh g a s F H K X T T → T.length ≤ i → (∀ x, x ∈ T ↔ ∃ n ∈ l.take i, x = -n) → (∀ x ∈ T, -x ∉ T) →
    (∃ gh', runL pg f_proof_checker_follows_l1 (f1St g l i gh) = some (.ret, ⟨[(4, B true)], [], gh'⟩) ∧ Idle R gh' g a F H K X ∧ gh.length ≤ gh'.length ∧ ∃ n ∈ l, -n ∈ l) ∨
    ∃ gh' T', runL pg f_proof_checker_follows_l1 (f1St g l i gh) = some (.normal, ⟨[(0, .ptr true g 0)], [], gh'⟩) ∧ Chk R gh' g a s F H K X T' T' ∧ gh.length ≤ gh'.length ∧ T'.length ≤ l.length ∧ (∀ x, x ∈ T' ↔ ∃ n ∈ l, x = -n) ∧ ∀ x ∈ T', -x ∉ T' := by
  intro k
  induction k with
  | zero =>
    intro i T gh hi h hTl hT hcon
    have : i = l.length := by omega
    subst this
    rw [List.take_length] at hT
    have hlt : ¬ (l.length : Int) < (l.length : Int) := by omega
    refine .inr ⟨gh, T, (lp_exit (s1 := ?s1) (D_proof_checker_follows_b1_ok ?h1)).trans ?r1, h, Nat.le_refl _, hTl, hT, hcon⟩
    case h1 => simp [D_proof_checker_follows_b1, hlt]; rfl
    case r1 => simp [keep, stays]
  | succ k ih =>
    intro i T gh hi h hTl hT hcon
    have hil : i < l.length := by omega
    obtain ⟨n, hn⟩ : ∃ n, l[i]? = some n := ⟨l[i], List.getElem?_eq_getElem hil⟩
    have ht : l.take (i + 1) = l.take i ++ [n] := by rw [List.take_add_one, hn]; rfl
    have hnm : n ∈ l := List.mem_of_getElem? hn
    have hx : (l.map I)[i]? = some (I n) := by rw [List.getElem?_map, hn]; rfl
    have hltI : (i : Int) < (l.length : Int) := by omega
    have hmx : maxBytes = 140737488355328 := rfl
    have hw : IntKind.i64.wrap (-n) = -n := wrap_id (hl n hnm).neg.inI.1 (hl n hnm).neg.inI.2
    have hwi : IntKind.i64.wrap ((i : Int) + 1) = (i : Int) + 1 := wrap_nat (by simp only [Sz]; omega)
    have hT1 : ∀ x, (x ∈ T ∨ x = -n) ↔ ∃ m ∈ l.take (i + 1), x = -m := fun x => by
      rw [ht]
      simp only [List.mem_append, List.mem_singleton, hT]
      constructor
      · rintro (⟨m, h1, h2⟩ | h1)
        · exact ⟨m, .inl h1, h2⟩
        · exact ⟨n, .inr rfl, h1⟩
      · rintro ⟨m, h1 | rfl, h2⟩
        · exact .inl ⟨m, h1, h2⟩
        · exact .inr h2
    by_cases h1 : n ∈ T
    · have hp := put_no h (n := -n) (by rw [Int.neg_neg]; exact h1) (by rw [Int.neg_neg]; exact (hl n hnm).inI)
      refine .inl ⟨gh, lp_ret (D_proof_checker_follows_b1_ok ?h2), h.idle, Nat.le_refl _, ?_⟩
      case h2 => simp [D_proof_checker_follows_b1, hltI, hx, hw, hp, -List.getElem?_map]
      obtain ⟨m, hm, e⟩ := (hT n).1 h1
      exact ⟨n, hnm, by rw [e, Int.neg_neg]; exact List.mem_of_mem_take hm⟩
    · by_cases h2 : -n ∈ T
      · have hp := put_has h (n := -n) h2 (by rw [Int.neg_neg]; exact h1) (by rw [Int.neg_neg]; exact (hl n hnm).inI)
        have hr := ih (i + 1) T gh (by omega) h (by omega) (fun x => by
          rw [← hT1 x]
          exact ⟨.inl, fun h => h.elim id fun e => by rw [e]; exact h2⟩) hcon
        have hst : runL pg f_proof_checker_follows_b1 (f1St g l i gh) = some (.normal, f1St g l (i + 1) gh) :=
          D_proof_checker_follows_b1_ok (by simp [D_proof_checker_follows_b1, hltI, hx, hw, hp, hwi, -List.getElem?_map])
        rw [show runL pg f_proof_checker_follows_l1 (f1St g l i gh) = runL pg f_proof_checker_follows_l1 (f1St g l (i + 1) gh) from lp_next hst rfl]
        exact hr
      · obtain ⟨gh1, hp, hc1, hle⟩ := put_new h (n := -n) h2 (by rw [Int.neg_neg]; exact h1) (by rw [Int.neg_neg]; exact (hl n hnm).inI) (by omega)
        have hr := ih (i + 1) (T ++ [-n]) gh1 (by omega) hc1 (by simp; omega) (fun x => by
          rw [← hT1 x]; simp) (fun x hx hm => by
          rcases List.mem_append.1 hx with hx | hx
          · rcases List.mem_append.1 hm with hm | hm
            · exact hcon x hx hm
            · have : x = n := by have := List.mem_singleton.1 hm; omega
              exact h1 (this ▸ hx)
          · have ex := List.mem_singleton.1 hx
            subst ex
            rw [Int.neg_neg] at hm
            rcases List.mem_append.1 hm with hm | hm
            · exact h1 hm
            · have := List.mem_singleton.1 hm
              exact (hl n hnm).1 (by omega))
        have hst : runL pg f_proof_checker_follows_b1 (f1St g l i gh) = some (.normal, f1St g l (i + 1) gh1) :=
          D_proof_checker_follows_b1_ok (by simp [D_proof_checker_follows_b1, hltI, hx, hw, hp, hwi, -List.getElem?_map])
        rw [show runL pg f_proof_checker_follows_l1 (f1St g l i gh) = runL pg f_proof_checker_follows_l1 (f1St g l (i + 1) gh1) from lp_next hst rfl]
        rcases hr with ⟨gh', r1, r2, r3, r4⟩ | ⟨gh', T', r1, r2, r3, r4⟩
        · exact .inl ⟨gh', r1, r2, by omega, r4⟩
        · exact .inr ⟨gh', T', r1, r2, by omega, r4⟩
end
end Go.Lw
end

/-! The checker of proofs: clauses of one number are asked. -/
section
namespace Go.Lw
open Go
structure KeptAll (L K : List (List Int)) : Prop where
  a : ∀ k ∈ K, ∃ c, Kept L k c
  b : ∀ c ∈ L, ∃ k ∈ K, ∀ x, x ∈ k ↔ x ∈ c
  small : ∀ c ∈ L, ∀ n ∈ c, Small n
  sz : ∀ k ∈ K, Sz k.length
section
variable {R : Nat → Role} {gh : List GObj} {g a s : Nat} {F : List (Int × PV)} {H : List PV} {K L : List (List Int)} {X : Int → List Nat} {T D S : List Int} {n : Int}
theorem KeptAll.inI (h : KeptAll L K) {k : List Int} (hk : k ∈ K) {n : Int} (hn : n ∈ k) : InI (-n) := by
  obtain ⟨c, hc⟩ := h.a k hk
  exact (h.small c hc.mem n ((hc.same n).1 hn)).neg.inI
theorem KeptAll.nz (h : KeptAll L K) : ∀ c ∈ L, ∀ n ∈ c, n ≠ 0 := fun c hc n hn => (h.small c hc n hn).1
abbrev f2St (g : Nat) (H : List PV) (i : Nat) (gh : List GObj) : St := ⟨[(0, .ptr true g 0), (34, .sl false 1 H), (35, I H.length), (36, I i)], [], gh⟩
theorem f2_step {i : Nat} {h : PV} {k : List Int} (hx : H[i]? = some h) (hcl : ClN R gh i k h) (hs : Sz H.length) :
    (2 ≤ k.length → runL pg f_proof_checker_follows_b2 (f2St g H i gh) = some (.normal, f2St g H (i + 1) gh)) ∧
    (k.length < 2 → ∀ r gh', callL pg 159 [.ptr true g 0, h] gh = some (B r, gh') → runL pg f_proof_checker_follows_b2 (f2St g H i gh) = if r = true then some (.normal, f2St g H (i + 1) gh') else some (.ret, ⟨[(4, B true)], [], gh'⟩)) := by
  have hil := (List.getElem?_eq_some_iff.1 hx).1
  have hltI : (i : Int) < (H.length : Int) := by omega
  have hwi : IntKind.i64.wrap ((i : Int) + 1) = (i : Int) + 1 := wrap_nat (by simp only [Sz] at *; omega)
  rcases hcl with ⟨rfl, rfl⟩ | ⟨b, gen, rfl, _, hb⟩
  · refine ⟨fun h => by simp at h, fun _ r gh' hp => ?_⟩
    cases r
    · rw [if_neg (by simp)]
      exact D_proof_checker_follows_b2_ok (by simp [D_proof_checker_follows_b2, hltI, hx, hp])
    · rw [if_pos rfl]
      exact D_proof_checker_follows_b2_ok (by simp [D_proof_checker_follows_b2, hltI, hx, hp, hwi])
  · refine ⟨fun h2 => D_proof_checker_follows_b2_ok ?_, fun h2 r gh' hp => ?_⟩
    · have h3 : decide ((k.length : Int) < 2) = false := by simp; omega
      simp [D_proof_checker_follows_b2, hltI, hx, h3, hwi]
    · have h3 : decide ((k.length : Int) < 2) = true := by simp; omega
      cases r
      · rw [if_neg (by simp)]
        exact D_proof_checker_follows_b2_ok (by simp [D_proof_checker_follows_b2, hltI, hx, hp, h3])
      · rw [if_pos rfl]
        exact D_proof_checker_follows_b2_ok (by simp [D_proof_checker_follows_b2, hltI, hx, hp, h3, hwi])
theorem foll_l2 (hK : KeptAll L K) (hs : Sz H.length) {W : Nat} (hW : (W + 1) * 8 ≤ maxBytes) : ∀ (m i : Nat) (T : List Int) (gh : List GObj), i + m = K.length → Chk R gh g a s F H K X T T → SoOk L S T → T.length + still L T ≤ W →
    (∀ (j : Nat) (k : List Int), j < i → K[j]? = some k → k.length < 2 → k ≠ [] ∧ ∀ x ∈ k, x ∈ T) →
    (∃ gh', runL pg f_proof_checker_follows_l2 (f2St g H i gh) = some (.ret, ⟨[(4, B true)], [], gh'⟩) ∧ Idle R gh' g a F H K X ∧ gh.length ≤ gh'.length ∧ Conf L S) ∨
    ∃ gh' T', runL pg f_proof_checker_follows_l2 (f2St g H i gh) = some (.normal, ⟨[(0, .ptr true g 0)], [], gh'⟩) ∧ Chk R gh' g a s F H K X T' T' ∧ gh.length ≤ gh'.length ∧ SoOk L S T' ∧ T'.length + still L T' ≤ W ∧
      ∀ k ∈ K, k.length < 2 → k ≠ [] ∧ ∀ x ∈ k, x ∈ T' := by
  intro m
  induction m with
  | zero =>
    intro i T gh hi h hT hTW hall
    have hlt : ¬ (i : Int) < (H.length : Int) := by have := h.st.hl; omega
    refine .inr ⟨gh, T, (lp_exit (s1 := ?s1) (D_proof_checker_follows_b2_ok ?h1)).trans ?r1, h, Nat.le_refl _, hT, hTW, fun k hk h2 => ?_⟩
    case h1 => simp [D_proof_checker_follows_b2, hlt]; rfl
    case r1 => simp [keep, stays]
    obtain ⟨j, hj, e⟩ := List.mem_iff_getElem.1 hk
    exact hall j k (by omega) (by rw [List.getElem?_eq_getElem hj, e]) h2
  | succ m ih =>
    intro i T gh hi h hT hTW hall
    have hil : i < K.length := by omega
    obtain ⟨k, hk⟩ : ∃ k, K[i]? = some k := ⟨K[i], List.getElem?_eq_getElem hil⟩
    obtain ⟨v, hv⟩ : ∃ v, H[i]? = some v := ⟨H[i]'(by rw [h.st.hl]; exact hil), List.getElem?_eq_getElem _⟩
    have hcl := h.st.cl i v k hv hk
    have hkm : k ∈ K := List.mem_of_getElem? hk
    have hst := f2_step (g := g) hv hcl hs
    by_cases h2 : 2 ≤ k.length
    · have hr := ih (i + 1) T gh (by omega) h hT hTW (fun j k' hj hk' hl => by
        by_cases hji : j = i
        · subst hji
          rw [hk] at hk'; cases hk'
          omega
        · exact hall j k' (by omega) hk' hl)
      rw [show runL pg f_proof_checker_follows_l2 (f2St g H i gh) = runL pg f_proof_checker_follows_l2 (f2St g H (i + 1) gh) from lp_next (hst.1 h2) rfl]
      exact hr
    · have h2' : k.length < 2 := by omega
      obtain ⟨c, hc⟩ := hK.a k hkm
      have hm := must_eq h hcl (fun n hn => hK.inI hkm hn) (hK.sz k hkm) (by omega)
      have hmo := must_ok hT hc.mem hc.same hc.nodup (hK.nz c hc.mem)
      cases hmt : mustT T k with
      | none =>
        rw [hmt] at hm hmo
        have := hst.2 h2' false gh hm
        rw [if_neg (by simp)] at this
        exact .inl ⟨gh, lp_ret this, h.idle, Nat.le_refl _, hmo⟩
      | some N =>
        rw [hmt] at hm hmo
        obtain ⟨gh1, hp, hc1, hle⟩ := hm
        obtain ⟨o1, o2, o3⟩ := hmo
        have hstep := hst.2 h2' true gh1 hp
        rw [if_pos rfl] at hstep
        have hkne : k ≠ [] := fun e => by
          subst e
          simp [mustT] at hmt
        have hkx : ∀ x ∈ k, x ∈ T ++ N := fun x hx => o3 x ((hc.same x).1 hx) fun y hy hne => by
          exfalso
          have hy := (hc.same y).2 hy
          match k, h2', hx, hy with
          | [z], _, hx, hy => exact hne ((List.mem_singleton.1 hy).trans (List.mem_singleton.1 hx).symm)
        have hTW1 : (T ++ N).length + still L (T ++ N) ≤ W := by
          rcases o2 with rfl | ⟨x, rfl, hx, hn, _⟩
          · rw [List.append_nil]; exact hTW
          · have := still_lt hc.mem hx hn
            rw [List.length_append, List.length_singleton]; omega
        have hr := ih (i + 1) (T ++ N) gh1 (by omega) hc1 o1 hTW1 (fun j k' hj hk' hl => by
          by_cases hji : j = i
          · subst hji
            rw [hk] at hk'; cases hk'
            exact ⟨hkne, hkx⟩
          · obtain ⟨q1, q2⟩ := hall j k' (by omega) hk' hl
            exact ⟨q1, fun x hx => List.mem_append.2 (.inl (q2 x hx))⟩)
        rw [show runL pg f_proof_checker_follows_l2 (f2St g H i gh) = runL pg f_proof_checker_follows_l2 (f2St g H (i + 1) gh1) from lp_next hstep rfl]
        rcases hr with ⟨gh', r1, r2, r3, r4⟩ | ⟨gh', T', r1, r2, r3, r4⟩
        · exact .inl ⟨gh', r1, r2, by omega, r4⟩
        · exact .inr ⟨gh', T', r1, r2, by omega, r4⟩
end
end Go.Lw
end

/-! The checker of proofs: the clauses that a number concerns are asked. -/
section
namespace Go.Lw
open Go
def XOk (K : List (List Int)) (X : Int → List Nat) : Prop := ∀ m i, i ∈ X m ↔ ∃ k, K[i]? = some k ∧ m ∈ k
section
variable {R : Nat → Role} {gh : List GObj} {g a s : Nat} {F : List (Int × PV)} {H : List PV} {K L : List (List Int)} {X : Int → List Nat} {T D S : List Int} {n : Int}
abbrev f4St (g b gen : Nat) (J : List Nat) (i : Nat) (gh : List GObj) : St := ⟨[(0, .ptr true g 0), (88, .stk b gen J.length), (89, I J.length), (90, I i)], [], gh⟩
theorem f4_step {i j b gen : Nat} {J : List Nat} {h v w : PV} {k : List Int} (hg : gh[g]? = some (.cells [.sl true 1 H, .mp a, v, w])) (hb : gh[b]? = some (.stk gen (J.map fun (i : Nat) => I i))) (hj : J[i]? = some j) (hx : H[j]? = some h) (hcl : ClN R gh j k h) (hs : Sz J.length)
    {r : Bool} {gh' : List GObj} (hp : callL pg 159 [.ptr true g 0, h] gh = some (B r, gh')) :
    runL pg f_proof_checker_follows_b4 (f4St g b gen J i gh) = if r = true then some (.normal, f4St g b gen J (i + 1) gh') else some (.ret, ⟨[(4, B true)], [], gh'⟩) := by
  have hil := (List.getElem?_eq_some_iff.1 hj).1
  have hltI : (i : Int) < (J.length : Int) := by omega
  have hwi : IntKind.i64.wrap ((i : Int) + 1) = (i : Int) + 1 := wrap_nat (by simp only [Sz] at *; omega)
  have hx2 : (J.map fun (i : Nat) => I i)[i]? = some (I j) := by rw [List.getElem?_map, hj]; rfl
  rcases hcl with ⟨rfl, rfl⟩ | ⟨b', gen', rfl, _, _⟩
  · cases r
    · rw [if_neg (by simp)]
      exact D_proof_checker_follows_b4_ok (by simp [D_proof_checker_follows_b4, hltI, hb, hx2, stkGet, hg, hx, hp, -List.getElem?_map])
    · rw [if_pos rfl]
      exact D_proof_checker_follows_b4_ok (by simp [D_proof_checker_follows_b4, hltI, hb, hx2, stkGet, hg, hx, hp, hwi, -List.getElem?_map])
  · cases r
    · rw [if_neg (by simp)]
      exact D_proof_checker_follows_b4_ok (by simp [D_proof_checker_follows_b4, hltI, hb, hx2, stkGet, hg, hx, hp, -List.getElem?_map])
    · rw [if_pos rfl]
      exact D_proof_checker_follows_b4_ok (by simp [D_proof_checker_follows_b4, hltI, hb, hx2, stkGet, hg, hx, hp, hwi, -List.getElem?_map])
theorem foll_l4 (hK : KeptAll L K) (hX : XOk K X) {b gen : Nat} (hF : findP F n = some (.stk b gen (X n).length)) (hs : Sz (X n).length) {W : Nat} (hW : (W + 1) * 8 ≤ maxBytes) : ∀ (m i : Nat) (T D : List Int) (gh : List GObj), i + m = (X n).length → Chk R gh g a s F H K X T D → SoOk L S T → T.length + still L T ≤ W → D.length ≤ T.length →
    (∃ gh', runL pg f_proof_checker_follows_l4 (f4St g b gen (X n) i gh) = some (.ret, ⟨[(4, B true)], [], gh'⟩) ∧ Idle R gh' g a F H K X ∧ gh.length ≤ gh'.length ∧ Conf L S) ∨
    ∃ gh' N, runL pg f_proof_checker_follows_l4 (f4St g b gen (X n) i gh) = some (.normal, ⟨[(0, .ptr true g 0)], [], gh'⟩) ∧ Chk R gh' g a s F H K X (T ++ N) (D ++ N) ∧ gh.length ≤ gh'.length ∧ SoOk L S (T ++ N) ∧ still L (T ++ N) + N.length ≤ still L T ∧
      ∀ j ∈ (X n).drop i, ∀ k, K[j]? = some k → ∀ x ∈ k, (∀ y ∈ k, y ≠ x → -y ∈ T) → x ∈ T ++ N := by
  intro m
  induction m with
  | zero =>
    intro i T D gh hi h hT _ _
    have hlt : ¬ (i : Int) < ((X n).length : Int) := by omega
    refine .inr ⟨gh, [], (lp_exit (s1 := ?s1) (D_proof_checker_follows_b4_ok ?h1)).trans ?r1, by rw [List.append_nil, List.append_nil]; exact h, Nat.le_refl _, by rw [List.append_nil]; exact hT, by rw [List.append_nil]; exact Nat.le_refl _, fun j hj => ?_⟩
    case h1 => simp [D_proof_checker_follows_b4, hlt]; rfl
    case r1 => simp [keep, stays]
    rw [List.drop_eq_nil_of_le (by omega)] at hj
    cases hj
  | succ m ih =>
    intro i T D gh hi h hT hTW hDT
    have hil : i < (X n).length := by omega
    obtain ⟨j, hj⟩ : ∃ j, (X n)[i]? = some j := ⟨(X n)[i], List.getElem?_eq_getElem hil⟩
    have hd : (X n).drop i = j :: (X n).drop (i + 1) := by
      rw [List.drop_eq_getElem_cons hil]
      rw [List.getElem?_eq_getElem hil] at hj
      rw [Option.some.inj hj]
    obtain ⟨k, hk, hnk⟩ := (hX n j).1 (List.mem_of_getElem? hj)
    have hjl : j < K.length := (List.getElem?_eq_some_iff.1 hk).1
    obtain ⟨v, hv⟩ : ∃ v, H[j]? = some v := ⟨H[j]'(by rw [h.st.hl]; exact hjl), List.getElem?_eq_getElem _⟩
    have hcl := h.st.cl j v k hv hk
    have hkm : k ∈ K := List.mem_of_getElem? hk
    obtain ⟨vt, hg, _⟩ := h.td
    have hof := h.st.of n
    rw [hF] at hof
    obtain ⟨b', gen', e, _, hb⟩ := hof
    injection e with e1 e2 e3
    subst e1; subst e2
    obtain ⟨c, hc⟩ := hK.a k hkm
    have hm := must_eq h hcl (fun n hn => hK.inI hkm hn) (hK.sz k hkm) (by omega)
    have hmo := must_ok hT hc.mem hc.same hc.nodup (hK.nz c hc.mem)
    cases hmt : mustT T k with
    | none =>
      rw [hmt] at hm hmo
      have := f4_step hg hb hj hv hcl hs hm
      rw [if_neg (by simp)] at this
      exact .inl ⟨gh, lp_ret this, h.idle, Nat.le_refl _, hmo⟩
    | some N =>
      rw [hmt] at hm hmo
      obtain ⟨gh1, hp, hc1, hle⟩ := hm
      obtain ⟨o1, o2, o3⟩ := hmo
      have hstep := f4_step hg hb hj hv hcl hs hp
      rw [if_pos rfl] at hstep
      have hst1 : still L (T ++ N) + N.length ≤ still L T := by
        rcases o2 with rfl | ⟨x, rfl, hx, hn, _⟩
        · rw [List.append_nil]; exact Nat.le_refl _
        · have := still_lt hc.mem hx hn
          rw [List.length_singleton]; omega
      have hr := ih (i + 1) (T ++ N) (D ++ N) gh1 (by omega) hc1 o1 (by rw [List.length_append]; omega) (by rw [List.length_append, List.length_append]; omega)
      rw [show runL pg f_proof_checker_follows_l4 (f4St g b gen (X n) i gh) = runL pg f_proof_checker_follows_l4 (f4St g b gen (X n) (i + 1) gh1) from lp_next hstep rfl]
      rcases hr with ⟨gh', r1, r2, r3, r4⟩ | ⟨gh', N', r1, r2, r3, r4, r5, r6⟩
      · exact .inl ⟨gh', r1, r2, by omega, r4⟩
      · refine .inr ⟨gh', N ++ N', r1, by rw [← List.append_assoc, ← List.append_assoc]; exact r2, by omega, by rw [← List.append_assoc]; exact r4, by rw [← List.append_assoc, List.length_append]; omega, fun j' hj' k' hk' x hx hall => ?_⟩
        rw [hd] at hj'
        rw [← List.append_assoc]
        rcases List.mem_cons.1 hj' with rfl | hj'
        · rw [hk] at hk'; cases hk'
          exact List.mem_append.2 (.inl (o3 x ((hc.same x).1 hx) fun y hy hne => hall y ((hc.same y).2 hy) hne))
        · exact r6 j' hj' k' hk' x hx fun y hy hne => List.mem_append.2 (.inl (hall y hy hne))
end
end Go.Lw
end

/-! The checker of proofs: does a clause follow? -/
section
namespace Go.Lw
open Go
section
variable {R : Nat → Role} {gh : List GObj} {g a s : Nat} {F : List (Int × PV)} {H : List PV} {K L : List (List Int)} {X : Int → List Nat} {T D S : List Int} {n : Int}
theorem l4_nils : runL pg f_proof_checker_follows_l4 ⟨[(0, .ptr true g 0), (88, .nils), (89, I 0), (90, I 0)], [], gh⟩ = some (.normal, ⟨[(0, .ptr true g 0)], [], gh⟩) := by
  refine (lp_exit (s1 := ?s1) (D_proof_checker_follows_b4_ok ?h1)).trans ?r1
  case h1 => simp [D_proof_checker_follows_b4]; rfl
  case r1 => simp [keep, stays]
theorem f3_exit (h : Chk R gh g a s F H K X T []) : runL pg f_proof_checker_follows_l3 ⟨[(0, .ptr true g 0)], [], gh⟩ = some (.normal, ⟨[], [], gh⟩) := by
  obtain ⟨v, hg, htd⟩ := h.td
  refine (lp_exit (s1 := ⟨[(0, .ptr true g 0), (55, B false)], [], gh⟩) (D_proof_checker_follows_b3_ok ?h1)).trans ?r1
  case h1 =>
    rcases htd with ⟨rfl, _⟩ | ⟨b, gen, ys, rfl, _⟩
    · simp [D_proof_checker_follows_b3, hg]
    · simp [D_proof_checker_follows_b3, hg]
  case r1 => simp [keep]
theorem Chk.pop (h : Chk R gh g a s F H K X T (D ++ [n])) : ∃ b gen ys, gh[g]? = some (boxP H a s (.stk b gen (D.length + 1))) ∧ gh[b]? = some (.stk gen ys) ∧ ys[D.length]? = some (I n) ∧ Chk R (gh.set g (boxP H a s (.stk b gen D.length))) g a s F H K X T D := by
  obtain ⟨v, hg, htd⟩ := h.td
  rcases htd with ⟨_, e⟩ | ⟨b, gen, ys, rfl, hR, hb, hl, ht⟩
  · simp at e
  · rw [List.length_append, List.length_singleton] at *
    have hgl := get_lt hg
    have hga : g ≠ a := fun e => by rw [e, h.st.map] at hg; cases hg
    have hgs : g ≠ s := fun e => by rw [e, h.so] at hg; cases hg
    have hgb : g ≠ b := fun e => by rw [e, hb] at hg; cases hg
    refine ⟨b, gen, ys, hg, hb, ?_, ⟨h.st.keep (by simp) (fun c _ hc => ?_), h.rg, h.rs, h.as, ?_, ⟨_, by rw [set_get, if_pos rfl, if_pos hgl], .inr ⟨b, gen, ys, rfl, hR, ?_, by omega, ?_⟩⟩⟩⟩
    · have h1 : (ys.take (D.length + 1))[D.length]? = ys[D.length]? := by rw [List.getElem?_take, if_pos (by omega)]
      rw [← h1, ht]; simp
    · rw [set_get, if_neg (fun e => by subst e; exact hc.elim (fun h2 => h2 h.rg) hga)]
    · rw [set_get, if_neg hgs]; exact h.so
    · rw [set_get, if_neg hgb]; exact hb
    · have h1 : (ys.take (D.length + 1)).take D.length = ys.take D.length := by rw [List.take_take]; congr 1; omega
      rw [← h1, ht, ← List.map_take]; simp
theorem f3_step {b gen : Nat} {ys : List PV} (hg : gh[g]? = some (boxP H a s (.stk b gen (D.length + 1)))) (hb : gh[b]? = some (.stk gen ys)) (hy : ys[D.length]? = some (I n)) {G : List GObj} (hG : gh.set g (boxP H a s (.stk b gen D.length)) = G)
    (hgG : G[g]? = some (boxP H a s (.stk b gen D.length))) (hm : G[a]? = some (.map (mapP F))) (hn : InI (-n)) (hD : Sz D.length) {v : PV} (hv : (findP F (-n)).getD .nils = v) {m : Nat} (hv2 : v = .nils ∧ m = 0 ∨ ∃ b gen, v = .stk b gen m) {e : IExit} {gh' : List GObj} {env : List (Nat × PV)}
    (hl : runL pg f_proof_checker_follows_l4 ⟨[(0, .ptr true g 0), (88, v), (89, I m), (90, I 0)], [], G⟩ = some (e, ⟨env, [], gh'⟩)) (he : e = .normal ∧ env = [(0, .ptr true g 0)] ∨ e = .ret) :
    runL pg f_proof_checker_follows_b3 ⟨[(0, .ptr true g 0)], [], gh⟩ = some (e, ⟨env, [], gh'⟩) := by
  have hw : IntKind.i64.wrap (-n) = -n := wrap_id hn.1 hn.2
  have hw2 : IntKind.i64.wrap ((D.length : Int) + 1 - 1) = D.length := by
    rw [show (D.length : Int) + 1 - 1 = D.length by omega]
    exact wrap_id (by omega) (by simp only [Sz] at hD; omega)
  have hw3 : IntKind.i64.wrap (D.length : Int) = D.length := wrap_id (by omega) (by simp only [Sz] at hD; omega)
  have hli : (D.length : Int) < (D.length : Int) + 1 := by omega
  have hlj : (D.length : Int) ≤ (D.length : Int) + 1 := by omega
  have hpos : (0 : Int) < (D.length : Int) + 1 := by omega
  have hf := mfind_mapP F (-n)
  have hG2 : gh.set g (.cells [.sl true 1 H, .mp a, .mp s, .stk b gen D.length]) = G := hG
  refine D_proof_checker_follows_b3_ok ?_
  rcases hv2 with ⟨rfl, rfl⟩ | ⟨b2, gen2, rfl⟩
  · have hl : runL pg f_proof_checker_follows_l4 ⟨[(0, .ptr true g 0), (88, .nils), (89, I 0), (90, I 0)], [], G⟩ = some (e, ⟨env, [], gh'⟩) := hl
    rcases he with ⟨rfl, rfl⟩ | rfl
    · simp [D_proof_checker_follows_b3, hg, hb, hy, stkGet, hw, hw2, hw3, hli, hlj, hpos, spliceAt, hG2, hgG, hm, hf, hv, hl, keep, stays, -List.getElem?_map]
    · simp [D_proof_checker_follows_b3, hg, hb, hy, stkGet, hw, hw2, hw3, hli, hlj, hpos, spliceAt, hG2, hgG, hm, hf, hv, hl, -List.getElem?_map]
  · rcases he with ⟨rfl, rfl⟩ | rfl
    · simp [D_proof_checker_follows_b3, hg, hb, hy, stkGet, hw, hw2, hw3, hli, hlj, hpos, spliceAt, hG2, hgG, hm, hf, hv, hl, keep, stays, -List.getElem?_map]
    · simp [D_proof_checker_follows_b3, hg, hb, hy, stkGet, hw, hw2, hw3, hli, hlj, hpos, spliceAt, hG2, hgG, hm, hf, hv, hl, -List.getElem?_map]
theorem foll_l3 (hK : KeptAll L K) (hX : XOk K X) (hXs : ∀ m, Sz (X m).length) {W : Nat} (hW : (W + 1) * 8 ≤ maxBytes) (hS : ∀ T, SoOk L S T → ∀ x ∈ T, InI (-x)) : ∀ (N : Nat) (T D P : List Int) (gh : List GObj), 2 * still L T + D.length ≤ N → Chk R gh g a s F H K X T D → SoOk L S T → T.length + still L T ≤ W → D.length ≤ T.length →
    Watch L T P → (∀ x ∈ P, x ∈ T) → (∀ x ∈ T, x ∈ P ∨ x ∈ D) → (∀ x ∈ D, x ∈ T) →
    (∃ gh', runL pg f_proof_checker_follows_l3 ⟨[(0, .ptr true g 0)], [], gh⟩ = some (.ret, ⟨[(4, B true)], [], gh'⟩) ∧ Idle R gh' g a F H K X ∧ gh.length ≤ gh'.length ∧ Conf L S) ∨
    ∃ gh', runL pg f_proof_checker_follows_l3 ⟨[(0, .ptr true g 0)], [], gh⟩ = some (.normal, ⟨[], [], gh'⟩) ∧ Idle R gh' g a F H K X ∧ gh.length ≤ gh'.length ∧ ¬ Conf L S := by
  intro N
  induction N with
  | zero =>
    intro T D P gh hN h hT hTW hDT hw hP hTP hD
    have : D = [] := List.length_eq_zero_iff.1 (by omega)
    subst this
    exact .inr ⟨gh, f3_exit h, h.idle, Nat.le_refl _, watch_end hT hw fun x hx => (hTP x hx).resolve_right (by simp)⟩
  | succ N ih =>
    intro T D P gh hN h hT hTW hDT hw hP hTP hD
    rcases List.eq_nil_or_concat D with rfl | ⟨D, n, rfl⟩
    · exact .inr ⟨gh, f3_exit h, h.idle, Nat.le_refl _, watch_end hT hw fun x hx => (hTP x hx).resolve_right (by simp)⟩
    · rw [List.concat_eq_append] at *
      have hmx : maxBytes = 140737488355328 := rfl
      have hDl : (D ++ [n]).length = D.length + 1 := by simp
      rw [hDl] at hN hDT
      obtain ⟨b, gen, ys, hg, hb, hy, hc0⟩ := h.pop
      have hnT : n ∈ T := hD n (by simp)
      have hnI := hS T hT n hnT
      obtain ⟨G, hG⟩ : ∃ G, gh.set g (boxP H a s (.stk b gen D.length)) = G := ⟨_, rfl⟩
      have hGl : G.length = gh.length := by rw [← hG]; simp
      rw [hG] at hc0
      have hgG : G[g]? = some (boxP H a s (.stk b gen D.length)) := by rw [← hG, set_get, if_pos rfl, if_pos (get_lt hg)]
      have hof := hc0.st.of (-n)
      have hDs : Sz D.length := by simp only [Sz]; omega
      -- behind the clauses that the number concerns
      have go : ∀ (G' : List GObj) (N' : List Int), runL pg f_proof_checker_follows_b3 ⟨[(0, .ptr true g 0)], [], gh⟩ = some (.normal, ⟨[(0, .ptr true g 0)], [], G'⟩) → Chk R G' g a s F H K X (T ++ N') (D ++ N') → G.length ≤ G'.length → SoOk L S (T ++ N') → still L (T ++ N') + N'.length ≤ still L T →
          (∀ j ∈ X (-n), ∀ k, K[j]? = some k → ∀ x ∈ k, (∀ y ∈ k, y ≠ x → -y ∈ T) → x ∈ T ++ N') →
          (∃ gh', runL pg f_proof_checker_follows_l3 ⟨[(0, .ptr true g 0)], [], gh⟩ = some (.ret, ⟨[(4, B true)], [], gh'⟩) ∧ Idle R gh' g a F H K X ∧ gh.length ≤ gh'.length ∧ Conf L S) ∨
          ∃ gh', runL pg f_proof_checker_follows_l3 ⟨[(0, .ptr true g 0)], [], gh⟩ = some (.normal, ⟨[], [], gh'⟩) ∧ Idle R gh' g a F H K X ∧ gh.length ≤ gh'.length ∧ ¬ Conf L S := by
        intro G' N' hst c1 c2 c3 c4 c5
        have hw2 : Watch L (T ++ N') (n :: P) := watch_step (ds := (X (-n)).filterMap fun j => K[j]?) hw hP hnT (fun c hc hm => by
          obtain ⟨k, hk, hsame⟩ := hK.b c hc
          obtain ⟨j, hj, e⟩ := List.mem_iff_getElem.1 hk
          refine ⟨k, List.mem_filterMap.2 ⟨j, (hX (-n) j).2 ⟨k, ?_, (hsame _).2 hm⟩, ?_⟩, hsame⟩
          · rw [List.getElem?_eq_getElem hj, e]
          · rw [List.getElem?_eq_getElem hj, e]) (fun d hd x hx hall => by
          obtain ⟨j, hj, e⟩ := List.mem_filterMap.1 hd
          exact c5 j hj d e x hx hall)
        have hr := ih (T ++ N') (D ++ N') (n :: P) G' (by rw [List.length_append]; omega) c1 c3 (by rw [List.length_append]; omega) (by rw [List.length_append, List.length_append]; omega) hw2
          (fun x hx => by
            rcases List.mem_cons.1 hx with rfl | hx
            · exact List.mem_append.2 (.inl hnT)
            · exact List.mem_append.2 (.inl (hP x hx)))
          (fun x hx => by
            rcases List.mem_append.1 hx with hx | hx
            · rcases hTP x hx with h | h
              · exact .inl (List.mem_cons_of_mem _ h)
              · rcases List.mem_append.1 h with h | h
                · exact .inr (List.mem_append.2 (.inl h))
                · rw [List.mem_singleton.1 h]; exact .inl (List.mem_cons_self ..)
            · exact .inr (List.mem_append.2 (.inr hx)))
          (fun x hx => by
            rcases List.mem_append.1 hx with hx | hx
            · exact List.mem_append.2 (.inl (hD x (by simp [hx])))
            · exact List.mem_append.2 (.inr hx))
        rw [show runL pg f_proof_checker_follows_l3 ⟨[(0, .ptr true g 0)], [], gh⟩ = runL pg f_proof_checker_follows_l3 ⟨[(0, .ptr true g 0)], [], G'⟩ from lp_next hst rfl]
        rcases hr with ⟨gh', r1, r2, r3, r4⟩ | ⟨gh', r1, r2, r3, r4⟩
        · exact .inl ⟨gh', r1, r2, by omega, r4⟩
        · exact .inr ⟨gh', r1, r2, by omega, r4⟩
      cases hfp : findP F (-n) with
      | none =>
        rw [hfp] at hof
        have hX0 : X (-n) = [] := hof
        have hst := f3_step hg hb hy hG hgG hc0.st.map hnI hDs (v := .nils) (by rw [hfp]; rfl) (.inl ⟨rfl, rfl⟩) (l4_nils (g := g) (gh := G)) (.inl ⟨rfl, rfl⟩)
        exact go G [] hst (by rw [List.append_nil, List.append_nil]; exact hc0) (Nat.le_refl _) (by rw [List.append_nil]; exact hT) (by rw [List.append_nil]; exact Nat.le_refl _) (fun j hj => by rw [hX0] at hj; cases hj)
      | some v =>
        rw [hfp] at hof
        obtain ⟨b2, gen2, rfl, _, hb2⟩ := hof
        have hv : (findP F (-n)).getD .nils = .stk b2 gen2 (X (-n)).length := by rw [hfp]; rfl
        rcases foll_l4 hK hX hfp (hXs (-n)) hW (X (-n)).length 0 T D G (by omega) hc0 hT hTW (by omega) with ⟨gh', r1, r2, r3, r4⟩ | ⟨gh', N', r1, r2, r3, r4, r5, r6⟩
        · have hst := f3_step hg hb hy hG hgG hc0.st.map hnI hDs hv (.inr ⟨b2, gen2, rfl⟩) r1 (.inr rfl)
          exact .inl ⟨gh', lp_ret hst, r2, by omega, r4⟩
        · have hst := f3_step hg hb hy hG hgG hc0.st.map hnI hDs hv (.inr ⟨b2, gen2, rfl⟩) r1 (.inl ⟨rfl, rfl⟩)
          rw [List.drop_zero] at r6
          exact go gh' N' hst r2 r3 r4 r5 r6
open Classical in
theorem follows_eq (h : Idle R gh g a F H K X) (hK : KeptAll L K) (hX : XOk K X) (hXs : ∀ m, Sz (X m).length) {l : List Int} (hl : ∀ n ∈ l, Small n) (hW : (l.length + L.flatten.length + 2) * 8 ≤ maxBytes) (hH : Sz H.length) :
    ∃ gh', callL pg 155 [.ptr true g 0, LI l] gh = some (B (decide (Conf L (l.map fun n => -n))), gh') ∧ Idle R gh' g a F H K X ∧ gh.length ≤ gh'.length := by
  obtain ⟨v, w, hg⟩ := h.bx
  have hgl := get_lt hg
  have hal := get_lt h.st.map
  have hga : g ≠ a := fun e => by rw [e, h.st.map] at hg; cases hg
  have hmx : maxBytes = 140737488355328 := rfl
  have hg1 : (gh ++ [GObj.map []])[g]? = some (.cells [.sl true 1 H, .mp a, v, w]) := get_app hg
  obtain ⟨G, hG⟩ : ∃ G, ((gh ++ [GObj.map []]).set g (.cells [.sl true 1 H, .mp a, .mp gh.length, w])).set g (boxP H a gh.length .nils) = G := ⟨_, rfl⟩
  have hGl : G.length = gh.length + 1 := by rw [← hG]; simp
  have hRs : R gh.length = .no := Classical.byContradiction fun hr => absurd (h.st.lt gh.length hr) (by omega)
  have hc0 : Chk R G g a gh.length F H K X [] [] := by
    refine ⟨h.st.keep (by omega) (fun c hcl hc => ?_), h.rg, hRs, by omega, ?_, ⟨.nils, ?_, .inl ⟨rfl, rfl⟩⟩⟩
    · have hgc : g ≠ c := fun e => by subst e; exact hc.elim (fun h2 => h2 h.rg) hga
      rw [← hG, set_get, if_neg hgc, set_get, if_neg hgc, List.getElem?_append_left hcl]
    · rw [← hG, set_get, if_neg (by omega), set_get, if_neg (by omega), List.getElem?_append_right (Nat.le_refl _)]
      simp [mapT]
    · rw [← hG, set_get, if_pos rfl, if_pos (by simp; omega)]
  -- the call, out of what its rounds come to
  have fin : ∀ (r : Bool) (gh' : List GObj), (runL pg f_proof_checker_follows_l1 (f1St g l 0 G) = some (.ret, ⟨[(4, B r)], [], gh'⟩) ∨ ∃ G', runL pg f_proof_checker_follows_l1 (f1St g l 0 G) = some (.normal, ⟨[(0, .ptr true g 0)], [], G'⟩) ∧ runL pg f_proof_checker_follows_k1 ⟨[(0, .ptr true g 0)], [], G'⟩ = some (.ret, ⟨[(4, B r)], [], gh'⟩)) →
      callL pg 155 [.ptr true g 0, LI l] gh = some (B r, gh') := by
    intro r gh' hr
    have hg2 : ((gh ++ [GObj.map []]).set g (.cells [.sl true 1 H, .mp a, .mp gh.length, w]))[g]? = some (.cells [.sl true 1 H, .mp a, .mp gh.length, w]) := by rw [set_get, if_pos rfl, if_pos (by simp; omega)]
    refine callL_fn (fn := f_proof_checker_follows) (s := ⟨[(4, B r)], [], gh'⟩) rfl rfl (D_proof_checker_follows_0_ok ?h1) ?r1
    case h1 =>
      unfold f1St at hr
      have hG : ((gh ++ [GObj.map []]).set g (.cells [.sl true 1 H, .mp a, .mp gh.length, w])).set g (.cells [.sl true 1 H, .mp a, .mp gh.length, .nils]) = G := hG
      have hr : (runL pg f_proof_checker_follows_l1 ⟨[(0, .ptr true g 0), (19, LI l), (20, I l.length), (21, I 0)], [], G⟩ = some (.ret, ⟨[(4, B r)], [], gh'⟩) ∨ ∃ G', runL pg f_proof_checker_follows_l1 ⟨[(0, .ptr true g 0), (19, LI l), (20, I l.length), (21, I 0)], [], G⟩ = some (.normal, ⟨[(0, .ptr true g 0)], [], G'⟩) ∧ runL pg f_proof_checker_follows_k1 ⟨[(0, .ptr true g 0)], [], G'⟩ = some (.ret, ⟨[(4, B r)], [], gh'⟩)) := hr
      rcases hr with hr | ⟨G', hr, hr2⟩
      · simp [D_proof_checker_follows_0, hg1, spliceAt, hg2, hG, hr, -List.set_set]
      · simp [D_proof_checker_follows_0, hg1, spliceAt, hg2, hG, hr, hr2, -List.set_set]
    case r1 => simp [finish, results, f_proof_checker_follows, resOfs, resOf, get, resOk]
  rcases foll_l1 hl (by omega) l.length 0 [] G (by omega) hc0 (Nat.zero_le _) (by simp) (by simp) with ⟨gh', r1, r2, r3, n, r4, r5⟩ | ⟨G', T1, r1, c1, c2, c3, c4, c5⟩
  · refine ⟨gh', ?_, r2, by omega⟩
    have hconf : Conf L (l.map fun n => -n) := .inl ⟨-n, .base (List.mem_map.2 ⟨n, r4, rfl⟩), .base (List.mem_map.2 ⟨-n, r5, by omega⟩)⟩
    rw [decide_eq_true hconf]
    exact fin true gh' (.inl r1)
  · have hT1 : SoOk L (l.map fun n => -n) T1 := ⟨fun x hx => by
        obtain ⟨n, hn, rfl⟩ := List.mem_map.1 hx
        exact (c4 _).2 ⟨n, hn, rfl⟩, fun x hx => by
        obtain ⟨n, hn, rfl⟩ := (c4 x).1 hx
        exact .base (List.mem_map.2 ⟨n, hn, rfl⟩), c5, fun x hx => by
        obtain ⟨n, hn, rfl⟩ := (c4 x).1 hx
        exact (hl n hn).neg.1⟩
    have hder : ∀ x, Der L (l.map fun n => -n) x → Small x := fun x hx => by
      cases hx with
      | base h =>
        obtain ⟨n, hn, rfl⟩ := List.mem_map.1 h
        exact (hl n hn).neg
      | unit h1 h2 _ => exact hK.small _ h1 _ h2
    have hS : ∀ T, SoOk L (l.map fun n => -n) T → ∀ x ∈ T, InI (-x) := fun T hT x hx => (hder x (hT.der x hx)).neg.inI
    have hst0 := still_le L T1
    -- k1: the clauses of one number, then the rest
    obtain ⟨v1, hg1', _⟩ := c1.td
    have hk1 : ∀ (r : Bool) (gh' : List GObj), (runL pg f_proof_checker_follows_l2 (f2St g H 0 G') = some (.ret, ⟨[(4, B r)], [], gh'⟩) ∨ ∃ G2, runL pg f_proof_checker_follows_l2 (f2St g H 0 G') = some (.normal, ⟨[(0, .ptr true g 0)], [], G2⟩) ∧ runL pg f_proof_checker_follows_k2 ⟨[(0, .ptr true g 0)], [], G2⟩ = some (.ret, ⟨[(4, B r)], [], gh'⟩)) →
        runL pg f_proof_checker_follows_k1 ⟨[(0, .ptr true g 0)], [], G'⟩ = some (.ret, ⟨[(4, B r)], [], gh'⟩) := by
      intro r gh' hr
      have hr : (runL pg f_proof_checker_follows_l2 ⟨[(0, .ptr true g 0), (34, .sl false 1 H), (35, I H.length), (36, I 0)], [], G'⟩ = some (.ret, ⟨[(4, B r)], [], gh'⟩) ∨ ∃ G2, runL pg f_proof_checker_follows_l2 ⟨[(0, .ptr true g 0), (34, .sl false 1 H), (35, I H.length), (36, I 0)], [], G'⟩ = some (.normal, ⟨[(0, .ptr true g 0)], [], G2⟩) ∧ runL pg f_proof_checker_follows_k2 ⟨[(0, .ptr true g 0)], [], G2⟩ = some (.ret, ⟨[(4, B r)], [], gh'⟩)) := hr
      refine D_proof_checker_follows_k1_ok ?_
      rcases hr with hr | ⟨G2, hr, hr2⟩
      · simp [D_proof_checker_follows_k1, hg1', hr]
      · simp [D_proof_checker_follows_k1, hg1', hr, hr2]
    rcases foll_l2 hK hH (W := l.length + L.flatten.length) (by omega) K.length 0 T1 G' (by omega) c1 hT1 (by omega) (fun j k hj => by omega) with ⟨gh', q1, q2, q3, q4⟩ | ⟨G2, T2, q1, q2, q3, q4, q5, q6⟩
    · refine ⟨gh', ?_, q2, by omega⟩
      rw [decide_eq_true q4]
      exact fin true gh' (.inr ⟨G', r1, hk1 true gh' (.inl q1)⟩)
    · have hw0 : Watch L T2 [] := by
        refine ⟨fun c hc x hx he hy => ?_, fun c hc x hx hall => ?_, fun c hc e => ?_⟩
        · obtain ⟨y, hyc, hne⟩ := he
          exact absurd (hy y hyc hne) (by simp)
        · obtain ⟨k, hk, hsame⟩ := hK.b c hc
          obtain ⟨c', hc'⟩ := hK.a k hk
          have hnd := hc'.nodup
          have hkl : k.length < 2 := by
            match k, hsame, hnd with
            | [], _, _ => simp
            | [z], _, _ => simp
            | z :: z' :: r, hsame, hnd =>
              exfalso
              have h1 := hall z ((hsame z).1 (by simp))
              have h2 := hall z' ((hsame z').1 (by simp))
              rw [h1, h2] at hnd
              simp at hnd
          exact (q6 k hk hkl).2 x ((hsame x).2 hx)
        · obtain ⟨k, hk, hsame⟩ := hK.b c hc
          subst e
          have hkn : k = [] := by
            cases k with
            | nil => rfl
            | cons z r => exact absurd ((hsame z).1 (by simp)) (by simp)
          exact (q6 k hk (by rw [hkn]; simp)).1 hkn
      have hk2 : ∀ (r : Bool) (gh' : List GObj), (runL pg f_proof_checker_follows_l3 ⟨[(0, .ptr true g 0)], [], G2⟩ = some (.ret, ⟨[(4, B r)], [], gh'⟩) ∨ (runL pg f_proof_checker_follows_l3 ⟨[(0, .ptr true g 0)], [], G2⟩ = some (.normal, ⟨[], [], gh'⟩) ∧ r = false)) →
          runL pg f_proof_checker_follows_k2 ⟨[(0, .ptr true g 0)], [], G2⟩ = some (.ret, ⟨[(4, B r)], [], gh'⟩) := by
        intro r gh' hr
        refine D_proof_checker_follows_k2_ok ?_
        rcases hr with hr | ⟨hr, rfl⟩
        · simp [D_proof_checker_follows_k2, hr]
        · have k3 : runL pg f_proof_checker_follows_k3 ⟨[], [], gh'⟩ = some (.ret, ⟨[(4, B false)], [], gh'⟩) := D_proof_checker_follows_k3_ok rfl
          simp [D_proof_checker_follows_k2, hr, k3]
      rcases foll_l3 hK hX hXs (W := l.length + L.flatten.length) (by omega) hS _ T2 T2 [] G2 (Nat.le_refl _) q2 q4 q5 (Nat.le_refl _) hw0 (fun x hx => by cases hx) (fun x hx => .inr hx) (fun x hx => hx) with ⟨gh', p1, p2, p3, p4⟩ | ⟨gh', p1, p2, p3, p4⟩
      · refine ⟨gh', ?_, p2, by omega⟩
        rw [decide_eq_true p4]
        exact fin true gh' (.inr ⟨G', r1, hk1 true gh' (.inr ⟨G2, q1, hk2 true gh' (.inl p1)⟩)⟩)
      · refine ⟨gh', ?_, p2, by omega⟩
        rw [decide_eq_false p4]
        exact fin false gh' (.inr ⟨G', r1, hk1 false gh' (.inr ⟨G2, q1, hk2 false gh' (.inr ⟨p1, rfl⟩)⟩)⟩)
end
end Go.Lw
end

/-! The checker of proofs: a clause is added. -/
section
namespace Go.Lw
open Go
def updR (R : Nat → Role) (b : Nat) (r : Role) : Nat → Role := fun c => if c = b then r else R c
theorem flat_intsP (l : List Int) : (l.map I).all isFlat = true := by
  rw [List.all_eq_true]
  intro x hx
  obtain ⟨n, _, rfl⟩ := List.mem_map.1 hx
  rfl
section
variable {R : Nat → Role} {gh : List GObj} {g a s : Nat} {F : List (Int × PV)} {H : List PV} {K L : List (List Int)} {X : Int → List Nat} {T D S : List Int} {n : Int}
theorem Stat.newR (h : Stat R gh a F H K X) {o : GObj} {r : Role} : Stat (updR R gh.length r) (gh ++ [o]) a F H K X where
  lt := fun b hb => by
    unfold updR at hb
    by_cases he : b = gh.length
    · simp; omega
    · rw [if_neg he] at hb
      have := h.lt b hb
      simp; omega
  ra := by
    have := get_lt h.map
    unfold updR
    rw [if_neg (by omega)]; exact h.ra
  hl := h.hl
  cl := fun i v k h1 h2 => by
    rcases h.cl i v k h1 h2 with h3 | ⟨b, gen, h3, h4, h5⟩
    · exact .inl h3
    · have := get_lt h5
      refine .inr ⟨b, gen, h3, ?_, get_app h5⟩
      unfold updR
      rw [if_neg (by omega)]; exact h4
  map := get_app h.map
  of := fun n => by
    have := h.of n
    unfold OfN at *
    split at this
    · exact this
    · obtain ⟨b, gen, h3, h4, h5⟩ := this
      have := get_lt h5
      refine ⟨b, gen, h3, ?_, get_app h5⟩
      unfold updR
      rw [if_neg (by omega)]; exact h4
theorem Stat.snoc (h : Stat R gh a F H K X) {v : PV} {k : List Int} (hv : ClN R gh K.length k v) : Stat R gh a F (H ++ [v]) (K ++ [k]) X where
  lt := h.lt
  ra := h.ra
  hl := by simp [h.hl]
  cl := fun i v' k' h1 h2 => by
    by_cases hi : i < K.length
    · rw [List.getElem?_append_left (by rw [h.hl]; exact hi)] at h1
      rw [List.getElem?_append_left hi] at h2
      exact h.cl i v' k' h1 h2
    · have hi2 := get_lt h2
      simp at hi2
      have : i = K.length := by omega
      subst this
      rw [← h.hl] at h1
      simp at h1 h2
      subst h1; subst h2
      exact hv
  map := h.map
  of := h.of
theorem Stat.ofNew (h : Stat R gh a F H K X) (hn : findP F n = none) (c : Nat) : Stat (updR R gh.length (.of n)) ((gh ++ [GObj.stk 0 [I c]]).set a (.map (mapP (setP F n (.stk gh.length 0 1))))) a (setP F n (.stk gh.length 0 1)) H K (fun m => if m = n then X n ++ [c] else X m) := by
  have hXn : X n = [] := by have := h.of n; rw [hn] at this; exact this
  have hal := get_lt h.map
  have h1 := h.newR (o := .stk 0 [I c]) (r := .of n)
  have oth : ∀ b o, b ≠ a → (gh ++ [GObj.stk 0 [I c]])[b]? = some o → ((gh ++ [GObj.stk 0 [I c]]).set a (.map (mapP (setP F n (.stk gh.length 0 1)))))[b]? = some o := fun b o hb ho => by rw [set_get, if_neg (Ne.symm hb)]; exact ho
  refine ⟨fun b hb => by have := h1.lt b hb; simpa using this, h1.ra, h1.hl, fun i v k e1 e2 => ?_, ?_, fun m => ?_⟩
  · rcases h1.cl i v k e1 e2 with h3 | ⟨b, gen, h3, h4, h5⟩
    · exact .inl h3
    · exact .inr ⟨b, gen, h3, h4, oth b _ (fun e => by rw [e, h1.map] at h5; cases h5) h5⟩
  · rw [set_get, if_pos rfl, if_pos (by simp; omega)]
  · rw [findP_setP]
    by_cases hm : m = n
    · subst hm
      rw [if_pos rfl, if_pos rfl, hXn]
      refine ⟨gh.length, 0, rfl, by simp [updR], oth gh.length _ (by omega) ?_⟩
      simp
    · rw [if_neg hm, if_neg hm]
      have := h1.of m
      unfold OfN at *
      split at this
      · exact this
      · obtain ⟨b, gen, h3, h4, h5⟩ := this
        exact ⟨b, gen, h3, h4, oth b _ (fun e => by rw [e, h1.map] at h5; cases h5) h5⟩
theorem Stat.ofOld (h : Stat R gh a F H K X) {b gen : Nat} (hn : findP F n = some (.stk b gen (X n).length)) (hR : R b = .of n) (hb : gh[b]? = some (.stk gen ((X n).map fun (i : Nat) => I i))) (c : Nat) :
    Stat R ((gh.set b (.stk (gen + 1) (((X n).map fun (i : Nat) => I i) ++ [I c]))).set a (.map (mapP (setP F n (.stk b (gen + 1) ((X n).length + 1)))))) a (setP F n (.stk b (gen + 1) ((X n).length + 1))) H K (fun m => if m = n then X n ++ [c] else X m) := by
  have hal := get_lt h.map
  have hbl := get_lt hb
  have hba : b ≠ a := fun e => by rw [e, h.map] at hb; cases hb
  have oth : ∀ d o, d ≠ a → d ≠ b → gh[d]? = some o → ((gh.set b (.stk (gen + 1) (((X n).map fun (i : Nat) => I i) ++ [I c]))).set a (.map (mapP (setP F n (.stk b (gen + 1) ((X n).length + 1))))))[d]? = some o := fun d o h1 h2 ho => by rw [set_get, if_neg (Ne.symm h1), set_get, if_neg (Ne.symm h2)]; exact ho
  refine ⟨fun b hb => by have := h.lt b hb; simpa using this, h.ra, h.hl, fun i v k e1 e2 => ?_, ?_, fun m => ?_⟩
  · rcases h.cl i v k e1 e2 with h3 | ⟨d, gen', h3, h4, h5⟩
    · exact .inl h3
    · exact .inr ⟨d, gen', h3, h4, oth d _ (fun e => by rw [e, h.map] at h5; cases h5) (fun e => by rw [e, hR] at h4; cases h4) h5⟩
  · rw [set_get, if_pos rfl, if_pos (by simp; omega)]
  · rw [findP_setP]
    by_cases hm : m = n
    · subst hm
      rw [if_pos rfl, if_pos rfl]
      refine ⟨b, gen + 1, by simp, hR, ?_⟩
      rw [set_get, if_neg (Ne.symm hba), set_get, if_pos rfl, if_pos hbl]
      simp
    · rw [if_neg hm, if_neg hm]
      have := h.of m
      unfold OfN at *
      split at this
      · exact this
      · obtain ⟨d, gen', h3, h4, h5⟩ := this
        exact ⟨d, gen', h3, h4, oth d _ (fun e => by rw [e, h.map] at h5; cases h5) (fun e => by rw [e, hR] at h4; cases h4; exact hm rfl) h5⟩
abbrev addSt (g : Nat) (v : PV) (l i : Nat) (gh : List GObj) : St := ⟨[(0, .ptr true g 0), (1, v), (12, v), (13, I l), (14, I i)], [], gh⟩
theorem add_step {b gen i : Nat} {k : List Int} {v w : PV} (hb : gh[b]? = some (.stk gen (k.map I))) (hn : k[i]? = some n) (hg : gh[g]? = some (.cells [.sl true 1 H, .mp a, v, w])) (hm : gh[a]? = some (.map (mapP F))) (hs : Sz k.length)
    {gh1 : List GObj} {u : PV} (hu : (findP F n = none ∧ gh1 = gh ++ [GObj.stk 0 [I H.length]] ∧ u = .stk gh.length 0 1) ∨ ∃ b2 gen2 ys, findP F n = some (.stk b2 gen2 ys.length) ∧ gh[b2]? = some (.stk gen2 ys) ∧ (ys.length + 1) * 8 ≤ maxBytes ∧ gh1 = gh.set b2 (.stk (gen2 + 1) (ys ++ [I H.length])) ∧ u = .stk b2 (gen2 + 1) (ys.length + 1)) :
    runL pg f_proof_checker_add_b1 (addSt g (.stk b gen k.length) k.length i gh) = some (.normal, addSt g (.stk b gen k.length) k.length (i + 1) (gh1.set a (.map (mapP (setP F n u))))) := by
  have hil := (List.getElem?_eq_some_iff.1 hn).1
  have hltI : (i : Int) < (k.length : Int) := by omega
  have hwi : IntKind.i64.wrap ((i : Int) + 1) = (i : Int) + 1 := wrap_nat (by simp only [Sz] at *; omega)
  have hx : (k.map I)[i]? = some (I n) := by rw [List.getElem?_map, hn]; rfl
  have hf := mfind_mapP F n
  have hset := mset_mapP F n u
  have hmx : maxBytes = 140737488355328 := rfl
  refine D_proof_checker_add_b1_ok ?_
  rcases hu with ⟨h1, h2, rfl⟩ | ⟨b2, gen2, ys, h1, h2, h3, h4, rfl⟩
  · rw [h1] at hf
    have hm1 : gh1[a]? = some (.map (mapP F)) := by rw [h2]; exact get_app hm
    have h2' : gh ++ [GObj.stk 0 [I H.length]] = gh1 := h2.symm
    simp [D_proof_checker_add_b1, hltI, hb, hx, stkGet, hg, hm, hf, elsOf, isFlat, hmx, h2', hm1, hset, hwi, -List.getElem?_map]
  · rw [h1] at hf
    have hb2a : b2 ≠ a := fun e => by rw [e, hm] at h2; cases h2
    have hm1 : gh1[a]? = some (.map (mapP F)) := by rw [h4, set_get, if_neg hb2a]; exact hm
    have h4' : gh.set b2 (.stk (gen2 + 1) (ys ++ [I H.length])) = gh1 := h4.symm
    simp [D_proof_checker_add_b1, hltI, hb, hx, stkGet, hg, hm, hf, ghStk, h2, h3, apart, elsOf, isFlat, h4', hm1, hset, hwi, -List.getElem?_map]
end
end Go.Lw
end

/-! The checker of proofs: a clause is added, whole. -/
section
namespace Go.Lw
open Go
section
variable {R : Nat → Role} {gh : List GObj} {g a s : Nat} {F : List (Int × PV)} {H : List PV} {K L : List (List Int)} {X : Int → List Nat} {T D S : List Int} {n : Int}
theorem add_l1 {hd v w : PV} {k : List Int} (hnd : k.Nodup) (hs : Sz k.length) (hB : (H.length + 1) * 8 ≤ maxBytes) : ∀ (m i : Nat) (R : Nat → Role) (F : List (Int × PV)) (X : Int → List Nat) (gh : List GObj), i + m = k.length → Stat R gh a F (H ++ [hd]) (K ++ [k]) X → R g = .no → gh[g]? = some (.cells [.sl true 1 H, .mp a, v, w]) →
    (∀ x ∈ k.drop i, (X x).length ≤ H.length) →
    ∃ R' gh' F' X', runL pg f_proof_checker_add_l1 (addSt g hd k.length i gh) = some (.normal, ⟨[(0, .ptr true g 0), (1, hd)], [], gh'⟩) ∧ Stat R' gh' a F' (H ++ [hd]) (K ++ [k]) X' ∧ R' g = .no ∧ gh'[g]? = some (.cells [.sl true 1 H, .mp a, v, w]) ∧
      (∀ x, X' x = X x ++ if x ∈ k.drop i then [H.length] else []) ∧ gh.length ≤ gh'.length := by
  intro m
  induction m with
  | zero =>
    intro i R F X gh hi h hR hg hX
    have hlt : ¬ (i : Int) < (k.length : Int) := by omega
    have hcl := h.cl H.length hd k (by simp) (by have := h.hl; simp at this; rw [this]; simp)
    have hone : hd.one = true ∧ stays 0 hd = true := by rcases hcl with ⟨_, rfl⟩ | ⟨b, gen, rfl, _⟩ <;> simp
    refine ⟨R, gh, F, X, (lp_exit (s1 := ⟨[(0, .ptr true g 0), (1, hd), (12, hd), (13, I k.length), (14, I i), (15, B false)], [], gh⟩) (D_proof_checker_add_b1_ok ?h1)).trans ?r1, h, hR, hg, fun x => ?_, Nat.le_refl _⟩
    case h1 => simp [D_proof_checker_add_b1, hlt]
    case r1 => simp [keep, hone.2]
    rw [List.drop_eq_nil_of_le (by omega)]; simp
  | succ m ih =>
    intro i R F X gh hi h hR hg hX
    have hil : i < k.length := by omega
    obtain ⟨n, hn⟩ : ∃ n, k[i]? = some n := ⟨k[i], List.getElem?_eq_getElem hil⟩
    have hd' : k.drop i = n :: k.drop (i + 1) := by
      rw [List.drop_eq_getElem_cons hil]
      rw [List.getElem?_eq_getElem hil] at hn
      rw [Option.some.inj hn]
    have hnot : n ∉ k.drop (i + 1) := by
      have : (k.drop i).Nodup := hnd.sublist (List.drop_sublist i k)
      rw [hd'] at this
      exact (List.nodup_cons.1 this).1
    have hcl := h.cl H.length hd k (by simp) (by have := h.hl; simp at this; rw [this]; simp)
    have hkne : k ≠ [] := fun e => by subst e; simp at hil
    obtain ⟨b, gen, rfl, hRb, hb⟩ := hcl.resolve_left (fun e => hkne e.1)
    have hgl := get_lt hg
    have hga : g ≠ a := fun e => by rw [e, h.map] at hg; cases hg
    have hof := h.of n
    have hXn : (X n).length ≤ H.length := hX n (by rw [hd']; simp)
    -- the next round, from what has become of it
    have go : ∀ (R2 : Nat → Role) (F2 : List (Int × PV)) (gh2 : List GObj), runL pg f_proof_checker_add_b1 (addSt g (.stk b gen k.length) k.length i gh) = some (.normal, addSt g (.stk b gen k.length) k.length (i + 1) gh2) →
        Stat R2 gh2 a F2 (H ++ [.stk b gen k.length]) (K ++ [k]) (fun m => if m = n then X n ++ [H.length] else X m) → R2 g = .no → gh2[g]? = some (.cells [.sl true 1 H, .mp a, v, w]) → gh.length ≤ gh2.length →
        ∃ R' gh' F' X', runL pg f_proof_checker_add_l1 (addSt g (.stk b gen k.length) k.length i gh) = some (.normal, ⟨[(0, .ptr true g 0), (1, .stk b gen k.length)], [], gh'⟩) ∧ Stat R' gh' a F' (H ++ [.stk b gen k.length]) (K ++ [k]) X' ∧ R' g = .no ∧ gh'[g]? = some (.cells [.sl true 1 H, .mp a, v, w]) ∧
          (∀ x, X' x = X x ++ if x ∈ k.drop i then [H.length] else []) ∧ gh.length ≤ gh'.length := by
      intro R2 F2 gh2 hst h2 hR2 hg2 hle
      obtain ⟨R', gh', F', X', r1, r2, r3, r4, r5, r6⟩ := ih (i + 1) R2 F2 _ gh2 (by omega) h2 hR2 hg2 (fun x hx => by
        have hne : x ≠ n := fun e => hnot (e ▸ hx)
        simp only [if_neg hne]
        exact hX x (by rw [hd']; exact List.mem_cons_of_mem _ hx))
      refine ⟨R', gh', F', X', (lp_next hst rfl).trans r1, r2, r3, r4, fun x => ?_, by omega⟩
      rw [r5 x, hd']
      by_cases hx : x = n
      · subst hx
        simp [hnot]
      · simp [hx]
    cases hfp : findP F n with
    | none =>
      rw [hfp] at hof
      have hX0 : X n = [] := hof
      refine go _ _ _ (add_step hb hn hg h.map hs (.inl ⟨hfp, rfl, rfl⟩)) (h.ofNew hfp H.length) ?_ ?_ (by simp)
      · unfold updR; rw [if_neg (by omega)]; exact hR
      · rw [set_get, if_neg (Ne.symm hga)]; exact get_app hg
    | some u =>
      rw [hfp] at hof
      obtain ⟨b2, gen2, rfl, hR2, hb2⟩ := hof
      have hb2g : b2 ≠ g := fun e => by rw [e, hg] at hb2; cases hb2
      have hb2b : b2 ≠ b := fun e => by rw [e, hRb] at hR2; cases hR2
      have hst := add_step hb hn hg h.map hs (gh1 := gh.set b2 (.stk (gen2 + 1) (((X n).map fun (i : Nat) => I i) ++ [I H.length]))) (u := .stk b2 (gen2 + 1) ((X n).length + 1)) (.inr ⟨b2, gen2, (X n).map fun (i : Nat) => I i, by simpa using hfp, hb2, by rw [List.length_map]; omega, rfl, by simp⟩)
      refine go _ _ _ hst (h.ofOld hfp hR2 hb2 H.length) hR ?_ (by simp)
      rw [set_get, if_neg (Ne.symm hga), set_get, if_neg hb2g]; exact hg
theorem ClonesP {xs : List Int} (h : xs.length * 8 ≤ maxBytes) (hx : xs ≠ []) : callL pg 121 [.sl false 1 (xs.map I)] gh = some (.stk gh.length 1 xs.length, gh ++ [.stk 1 (xs.map I)]) := by
  have : callL pg 121 [.sl false 1 (xs.map I)] gh = libCloneK 8 [.sl false 1 (xs.map I)] gh := rfl
  rw [this, libCloneK, if_neg (by simpa using hx), if_pos ⟨rfl, by simpa using h, flat_intsP xs⟩, List.length_map]
theorem ClonesP_nil : callL pg 121 [.sl false 1 []] gh = some (.sl true 1 [], gh) := by
  have : callL pg 121 [.sl false 1 []] gh = libCloneK 8 [.sl false 1 []] gh := rfl
  rw [this, libCloneK, if_pos rfl, libClone, if_pos ⟨rfl, by simp⟩]
theorem SortP {b gen : Nat} {xs : List Int} (hb : gh[b]? = some (.stk gen (xs.map I))) (h : xs.length * 8 ≤ maxBytes) : callL pg 161 [.stk b gen xs.length] gh = some (.tup [], gh.set b (.stk gen ((xs.mergeSort fun x y => decide (x ≤ y)).map I))) := by
  have : callL pg 161 [.stk b gen xs.length] gh = libSortK [.stk b gen xs.length] gh := rfl
  rw [this]
  simp only [libSortK, hb]
  rw [if_pos ⟨trivial, by simp, h⟩, show unInts (xs.map I) = some xs from unInts_map xs, ← isortI_eq]
  rfl
theorem CompactP {b gen : Nat} {xs : List Int} (hb : gh[b]? = some (.stk gen (xs.map I))) (h : xs.length * 8 ≤ maxBytes) : callL pg 162 [.stk b gen xs.length] gh = some (.stk b gen (Lib.compact xs).length, gh.set b (.stk gen ((Lib.compact xs).map I))) := by
  have : callL pg 162 [.stk b gen xs.length] gh = libCompactK [.stk b gen xs.length] gh := rfl
  rw [this]
  simp only [libCompactK, hb]
  rw [if_pos ⟨trivial, by simp, h⟩, show unInts (xs.map I) = some xs from unInts_map xs]
  rfl
theorem Sort_nil : callL pg 161 [.sl false 1 []] gh = some (.tup [], gh) := rfl
theorem Compact_nil : callL pg 162 [.sl false 1 []] gh = some (.sl false 1 [], gh) := rfl
theorem lnK_stk {Q : Type} {z : Nat} {x : Option Q} (b g n : Nat) : lnK z (.stk b g n) x = gb (Nat.beq 1 z) x := rfl
theorem add_k1 {hd v w : PV} (hh : hd = .sl false 1 [] ∨ ∃ b gen m, hd = .stk b gen m) (hg : gh[g]? = some (.cells [.sl true 1 H, .mp a, v, w])) (hB : (H.length + 1) * 24 ≤ maxBytes) :
    runL pg f_proof_checker_add_k1 ⟨[(0, .ptr true g 0), (1, hd)], [], gh⟩ = some (.normal, ⟨[], [], gh.set g (.cells [.sl true 1 (H ++ [hd]), .mp a, v, w])⟩) := by
  have hgl := get_lt hg
  refine D_proof_checker_add_k1_ok ?_
  have hg2 : (gh.set g (.cells [.sl false 1 H, .mp a, v, w]))[g]? = some (.cells [.sl false 1 H, .mp a, v, w]) := by rw [set_get, if_pos rfl, if_pos hgl]
  rcases hh with rfl | ⟨b, gen, m, rfl⟩
  · simp [D_proof_checker_add_k1, hg, spliceAt, hB, hg2]
  · simp [D_proof_checker_add_k1, hg, spliceAt, hB, hg2, lnK_stk]
theorem add_eq (h : Idle R gh g a F H K X) {l : List Int} (hl : (l.length + 1) * 8 ≤ maxBytes) (hB : (H.length + 1) * 24 ≤ maxBytes) (hX : ∀ m, (X m).length ≤ H.length) :
    ∃ R' gh' F' X' hd, callL pg 157 [.ptr true g 0, LI l] gh = some (.tup [], gh') ∧ Idle R' gh' g a F' (H ++ [hd]) (K ++ [keepC l]) X' ∧ (∀ x, X' x = X x ++ if x ∈ keepC l then [H.length] else []) ∧ gh.length ≤ gh'.length := by
  obtain ⟨v, w, hg⟩ := h.bx
  have hmx : maxBytes = 140737488355328 := rfl
  have hlen := keepC_len l
  have hs : Sz (keepC l).length := by simp only [Sz]; omega
  have hHK : H.length = K.length := h.st.hl
  by_cases hn : l = []
  · subst hn
    have hk : keepC [] = [] := by have := keepC_len []; exact List.length_eq_zero_iff.1 (by simpa using this)
    have hst : Stat R gh a F (H ++ [.sl false 1 []]) (K ++ [keepC []]) X := h.st.snoc (.inl ⟨hk, rfl⟩)
    obtain ⟨R', gh', F', X', r1, r2, r3, r4, r5, r6⟩ := add_l1 (v := v) (w := w) (keepC_nodup []) hs (by omega) (keepC []).length 0 R F X gh (by omega) hst h.rg hg (fun x hx => by rw [hk] at hx; cases hx)
    have hk1 := add_k1 (hd := .sl false 1 []) (.inl rfl) r4 hB
    rw [List.drop_zero] at r5
    refine ⟨R', gh'.set g (.cells [.sl true 1 (H ++ [.sl false 1 []]), .mp a, v, w]), F', X', .sl false 1 [], ?_, ⟨r2.keep (by simp) (fun b _ hb => ?_), r3, v, w, ?_⟩, r5, by simpa using r6⟩
    · have h0 : runL pg f_proof_checker_add_l1 ⟨[(0, .ptr true g 0), (1, .sl false 1 []), (12, .sl false 1 []), (13, I 0), (14, I 0)], [], gh⟩ = some (.normal, ⟨[(0, .ptr true g 0), (1, .sl false 1 [])], [], gh'⟩) := by
        have := r1
        rw [hk] at this
        exact this
      have hc := ClonesP_nil (gh := gh)
      have hsn := Sort_nil (gh := gh)
      have hcn := Compact_nil (gh := gh)
      refine (callL_code (fn := f_proof_checker_add) rfl rfl (D_proof_checker_add_0_ok (e := .normal) (s := ⟨[], [], gh'.set g (.cells [.sl true 1 (H ++ [.sl false 1 []]), .mp a, v, w])⟩) ?h1)).trans ?r1
      case h1 => simp [D_proof_checker_add_0, hc, hsn, hcn, h0, hk1]
      case r1 => simp [finish, results, f_proof_checker_add, resOfs, resOk]
    · have hga : g ≠ a := fun e => by rw [e, r2.map] at r4; cases r4
      rw [set_get, if_neg (fun e => by subst e; exact hb.elim (fun h2 => h2 r3) hga)]
    · rw [set_get, if_pos rfl, if_pos (get_lt r4)]
  · -- the stack of the clause
    obtain ⟨G, hG⟩ : ∃ G, gh ++ [GObj.stk 1 ((keepC l).map I)] = G := ⟨_, rfl⟩
    have hst : Stat (updR R gh.length (.cl K.length)) G a F (H ++ [.stk gh.length 1 (keepC l).length]) (K ++ [keepC l]) X := by
      rw [← hG]
      exact h.st.newR.snoc (.inr ⟨gh.length, 1, rfl, by simp [updR], by simp⟩)
    have hgl := get_lt hg
    have hgG : G[g]? = some (.cells [.sl true 1 H, .mp a, v, w]) := by rw [← hG]; exact get_app hg
    have hrG : updR R gh.length (.cl K.length) g = .no := by unfold updR; rw [if_neg (by omega)]; exact h.rg
    obtain ⟨R', gh', F', X', r1, r2, r3, r4, r5, r6⟩ := add_l1 (v := v) (w := w) (keepC_nodup l) hs (by omega) (keepC l).length 0 _ F X G (by omega) hst hrG hgG (fun x _ => hX x)
    have hk1 := add_k1 (hd := .stk gh.length 1 (keepC l).length) (.inr ⟨_, _, _, rfl⟩) r4 hB
    rw [List.drop_zero] at r5
    have hGl : G.length = gh.length + 1 := by rw [← hG]; simp
    refine ⟨R', gh'.set g (.cells [.sl true 1 (H ++ [.stk gh.length 1 (keepC l).length]), .mp a, v, w]), F', X', .stk gh.length 1 (keepC l).length, ?_, ⟨r2.keep (by simp) (fun b _ hb => ?_), r3, v, w, ?_⟩, r5, by simp; omega⟩
    · have hc := ClonesP (gh := gh) (by omega) hn
      have hsl : (l.mergeSort fun x y => decide (x ≤ y)).length = l.length := by simp
      have hsn := SortP (gh := gh ++ [.stk 1 (l.map I)]) (b := gh.length) (gen := 1) (xs := l) (by simp) (by omega)
      have hcn := CompactP (gh := gh ++ [.stk 1 ((l.mergeSort fun x y => decide (x ≤ y)).map I)]) (b := gh.length) (gen := 1) (xs := l.mergeSort fun x y => decide (x ≤ y)) (by simp) (by rw [hsl]; omega)
      rw [hsl] at hcn
      have e1 : (gh ++ [GObj.stk 1 (l.map I)]).set gh.length (.stk 1 ((l.mergeSort fun x y => decide (x ≤ y)).map I)) = gh ++ [.stk 1 ((l.mergeSort fun x y => decide (x ≤ y)).map I)] := by simp
      have e2 : (gh ++ [GObj.stk 1 ((l.mergeSort fun x y => decide (x ≤ y)).map I)]).set gh.length (.stk 1 ((Lib.compact (l.mergeSort fun x y => decide (x ≤ y))).map I)) = G := by rw [← hG]; simp [keepC]
      rw [e1] at hsn
      rw [e2] at hcn
      have h0 : runL pg f_proof_checker_add_l1 ⟨[(0, .ptr true g 0), (1, .stk gh.length 1 (keepC l).length), (12, .stk gh.length 1 (keepC l).length), (13, I (keepC l).length), (14, I 0)], [], G⟩ = some (.normal, ⟨[(0, .ptr true g 0), (1, .stk gh.length 1 (keepC l).length)], [], gh'⟩) := r1
      have hcn' : callL pg 162 [.stk gh.length 1 l.length] (gh ++ [.stk 1 ((l.mergeSort fun x y => decide (x ≤ y)).map I)]) = some (.stk gh.length 1 (keepC l).length, G) := hcn
      refine (callL_code (fn := f_proof_checker_add) rfl rfl (D_proof_checker_add_0_ok (e := .normal) (s := ⟨[], [], gh'.set g (.cells [.sl true 1 (H ++ [.stk gh.length 1 (keepC l).length]), .mp a, v, w])⟩) ?h2)).trans ?r2
      case h2 =>
        generalize (keepC l).length = kl at *
        generalize gh ++ [GObj.stk 1 ((l.mergeSort fun x y => decide (x ≤ y)).map I)] = G2 at *
        simp [D_proof_checker_add_0, hc, hsn, hcn', h0, hk1]
      case r2 => simp [finish, results, f_proof_checker_add, resOfs, resOk]
    · have hga : g ≠ a := fun e => by rw [e, r2.map] at r4; cases r4
      rw [set_get, if_neg (fun e => by subst e; exact hb.elim (fun h2 => h2 r3) hga)]
    · rw [set_get, if_pos rfl, if_pos (get_lt r4)]
end
end Go.Lw
end

/-! The checker of proofs: clauses held, one after the other. -/
section
namespace Go.Lw
open Go
def Held (gh : List GObj) (g : Nat) (L : List (List Int)) : Prop := ∃ R a F H X, Idle R gh g a F H (L.map keepC) X ∧ XOk (L.map keepC) X ∧ ∀ m, (X m).length ≤ H.length
structure OkL (L : List (List Int)) : Prop where
  len : L.length ≤ 1600000
  one : ∀ l ∈ L, l.length ≤ 200 ∧ ∀ n ∈ l, Small n
theorem OkL.flat {L : List (List Int)} (h : OkL L) : L.flatten.length ≤ 200 * L.length := by
  obtain ⟨h0, h⟩ := h
  clear h0
  induction L with
  | nil => simp
  | cons l L ih =>
    have h1 := (h l (by simp)).1
    have h2 := ih fun l hl => h l (by simp [hl])
    rw [List.flatten_cons, List.length_append, List.length_cons]
    omega
theorem OkL.kept {L : List (List Int)} (h : OkL L) : KeptAll L (L.map keepC) where
  a := fun k hk => by
    obtain ⟨c, hc, rfl⟩ := List.mem_map.1 hk
    exact ⟨c, hc, fun x => keepC_mem, keepC_nodup c⟩
  b := fun c hc => ⟨keepC c, List.mem_map.2 ⟨c, hc, rfl⟩, fun x => keepC_mem⟩
  small := fun c hc n hn => (h.one c hc).2 n hn
  sz := fun k hk => by
    obtain ⟨c, hc, rfl⟩ := List.mem_map.1 hk
    have h1 := keepC_len c
    have h2 := (h.one c hc).1
    simp only [Sz]; omega
section
variable {gh : List GObj} {g : Nat} {L : List (List Int)} {l : List Int}
theorem held_add (h : Held gh g L) (hL : L.length ≤ 1600000) (hl : l.length ≤ 200) : ∃ gh', callL pg 157 [.ptr true g 0, LI l] gh = some (.tup [], gh') ∧ Held gh' g (L ++ [l]) := by
  obtain ⟨R, a, F, H, X, h1, h2, h3⟩ := h
  have hmx : maxBytes = 140737488355328 := rfl
  have hHL : H.length = L.length := by have := h1.st.hl; rwa [List.length_map] at this
  obtain ⟨R', gh', F', X', hd, r1, r2, r3, _⟩ := add_eq h1 (l := l) (by omega) (by omega) h3
  refine ⟨gh', r1, R', a, F', H ++ [hd], X', by rw [List.map_append]; exact r2, fun m i => ?_, fun m => ?_⟩
  · rw [r3 m, List.map_append, List.mem_append, h2 m i]
    constructor
    · rintro (⟨k, hk, hm⟩ | hi)
      · exact ⟨k, get_app hk, hm⟩
      · by_cases hm : m ∈ keepC l
        · rw [if_pos hm] at hi
          have := List.mem_singleton.1 hi
          subst this
          refine ⟨keepC l, ?_, hm⟩
          rw [hHL, List.getElem?_append_right (by simp)]
          simp
        · rw [if_neg hm] at hi; cases hi
    · rintro ⟨k, hk, hm⟩
      by_cases hi : i < (L.map keepC).length
      · rw [List.getElem?_append_left hi] at hk
        exact .inl ⟨k, hk, hm⟩
      · have := get_lt hk
        simp at this hi
        have e : i = L.length := by omega
        subst e
        rw [List.getElem?_append_right (by simp)] at hk
        simp at hk
        subst hk
        rw [if_pos hm, hHL]
        exact .inr (by simp)
  · rw [r3 m]
    have := h3 m
    by_cases hm : m ∈ keepC l
    · rw [if_pos hm]; simp; omega
    · rw [if_neg hm]; simp; omega
open Classical in
theorem held_follows (h : Held gh g L) (hL : OkL L) (hl : l.length ≤ 200 ∧ ∀ n ∈ l, Small n) : ∃ gh', callL pg 155 [.ptr true g 0, LI l] gh = some (B (decide (Conf L (l.map fun n => -n))), gh') ∧ Held gh' g L := by
  obtain ⟨R, a, F, H, X, h1, h2, h3⟩ := h
  have hmx : maxBytes = 140737488355328 := rfl
  have hHL : H.length = L.length := by have := h1.st.hl; rwa [List.length_map] at this
  have h4 := hL.flat
  have h5 := hL.len
  have h6 := hl.1
  obtain ⟨gh', r1, r2, _⟩ := follows_eq h1 hL.kept h2 (fun m => by have := h3 m; simp only [Sz]; omega) hl.2 (by omega) (by simp only [Sz]; omega)
  exact ⟨gh', r1, R, a, F, H, X, r2, h2, h3⟩
abbrev openSt (g : Nat) (L : List (List Int)) (i : Nat) (gh : List GObj) : St := ⟨[(3, .ptr true g 0), (9, .sl false 1 (L.map fun l => LI l)), (10, I L.length), (11, I i)], [], gh⟩
theorem open_l1 (hL : L.length ≤ 1600000) (h1 : ∀ l ∈ L, l.length ≤ 200) : ∀ (m i : Nat) (gh : List GObj), i + m = L.length → Held gh g (L.take i) →
    ∃ gh', runL pg f_proof_open_l1 (openSt g L i gh) = some (.normal, ⟨[(3, .ptr true g 0)], [], gh'⟩) ∧ Held gh' g L := by
  intro m
  induction m with
  | zero =>
    intro i gh hi h
    have : i = L.length := by omega
    subst this
    rw [List.take_length] at h
    have hlt : ¬ (L.length : Int) < (L.length : Int) := by omega
    refine ⟨gh, (lp_exit (s1 := ?s1) (D_proof_open_b1_ok ?h1)).trans ?r1, h⟩
    case h1 => simp [D_proof_open_b1, hlt]; rfl
    case r1 => simp [keep, stays]
  | succ m ih =>
    intro i gh hi h
    have hil : i < L.length := by omega
    obtain ⟨l, hl⟩ : ∃ l, L[i]? = some l := ⟨L[i], List.getElem?_eq_getElem hil⟩
    have ht : L.take (i + 1) = L.take i ++ [l] := by rw [List.take_add_one, hl]; rfl
    have hx : (L.map fun l => LI l)[i]? = some (LI l) := by rw [List.getElem?_map, hl]; rfl
    have hltI : (i : Int) < (L.length : Int) := by omega
    have hwi : IntKind.i64.wrap ((i : Int) + 1) = (i : Int) + 1 := wrap_nat (by simp only [Sz]; omega)
    obtain ⟨gh1, r1, r2⟩ := held_add h (l := l) (by rw [List.length_take]; omega) (h1 l (List.mem_of_getElem? hl))
    rw [← ht] at r2
    obtain ⟨gh', q1, q2⟩ := ih (i + 1) gh1 (by omega) r2
    refine ⟨gh', (lp_next (D_proof_open_b1_ok ?h2) rfl).trans q1, q2⟩
    case h2 => simp [D_proof_open_b1, hltI, hx, r1, hwi, -List.getElem?_map]
theorem open_eq (hL : L.length ≤ 1600000) (h1 : ∀ l ∈ L, l.length ≤ 200) : ∃ gh', callL pg 154 [.sl false 1 (L.map fun l => LI l)] [] = some (.ptr true 1 0, gh') ∧ Held gh' 1 L := by
  have h0 : Held [.map [], .cells [.sl true 1 [], .mp 0, .nilm, .nils]] 1 (L.take 0) := by
    refine ⟨fun _ => .no, 0, [], [], fun _ => [], ⟨⟨fun b hb => absurd rfl hb, rfl, rfl, fun i h k e => by simp at e, rfl, fun n => rfl⟩, rfl, .nilm, .nils, rfl⟩, fun m i => ?_, fun m => Nat.le_refl _⟩
    simp
  obtain ⟨gh', r1, r2⟩ := open_l1 hL h1 L.length 0 _ (by omega) h0
  refine ⟨gh', callL_fn (fn := f_proof_open) (s := ⟨[(2, .ptr true 1 0)], [], gh'⟩) rfl rfl (D_proof_open_0_ok ?h1) ?r1, r2⟩
  case h1 =>
    have k1 : runL pg f_proof_open_k1 ⟨[(3, .ptr true 1 0)], [], gh'⟩ = some (.ret, ⟨[(2, .ptr true 1 0)], [], gh'⟩) := D_proof_open_k1_ok rfl
    have r1' : runL pg f_proof_open_l1 ⟨[(3, .ptr true 1 0), (9, .sl false 1 (L.map fun l => LI l)), (10, I L.length), (11, I 0)], [], [.map [], .cells [.sl true 1 [], .mp 0, .nilm, .nils]]⟩ = some (.normal, ⟨[(3, .ptr true 1 0)], [], gh'⟩) := r1
    simp [D_proof_open_0, r1', k1]
  case r1 => simp [finish, results, f_proof_open, resOfs, resOf, get, resOk]
end
end Go.Lw
end

/-! What follows from clauses (the document): loops. -/
section
namespace Go.Lw
open Go
section
variable {gh : List GObj} {L : List (List Int)} {T S : List Int}
theorem HasP_loop {l : List Int} {n : Int} (hs : Sz l.length) : ∀ k i, i + k = l.length →
    runL pg f_ref_Has_l1 ⟨[(0, LI l), (1, I n), (5, I (i : Int))], [], gh⟩ = if n ∈ l.drop i then some (.ret, ⟨[(4, B true)], [], gh⟩) else some (.normal, ⟨[], [], gh⟩)
  | 0, i, h => by
    rw [List.drop_eq_nil_of_le (by omega), if_neg (by simp)]
    have hlt : ¬ i < l.length := by omega
    refine (lp_exit (s1 := ?s1) (D_ref_Has_b1_ok ?h1)).trans ?r1
    case h1 => simp only [D_ref_Has_b1]; simp [hlt]; rfl
    case r1 => simp [keep]
  | k + 1, i, h => by
    have hlt : i < l.length := by omega
    have hltD : decide (i < l.length) = true := decide_eq_true hlt
    have e2 : IntKind.i64.wrap ((i : Int) + 1) = ((i + 1 : Nat) : Int) := wrap_nat (by simp only [Sz] at hs ⊢; omega)
    have hg : (l.map I)[i]? = some (I l[i]) := by simp [List.getElem?_eq_getElem hlt]
    have hrec := HasP_loop (n := n) hs k (i + 1) (by omega)
    rw [List.drop_eq_getElem_cons hlt]
    generalize l[i] = a at *
    by_cases he : a = n
    · rw [if_pos (by simp [he])]
      refine lp_ret (D_ref_Has_b1_ok ?_)
      simp only [D_ref_Has_b1]
      simp [hltD, hg, he, -List.getElem?_map]
    · have hmem : (n ∈ a :: l.drop (i + 1)) = (n ∈ l.drop (i + 1)) := by
        have : ¬ n = a := fun e => he e.symm
        simp [this]
      simp only [hmem]
      refine lp_next (s1 := ⟨[(0, LI l), (1, I n), (5, I ((i + 1 : Nat) : Int))], [], gh⟩) (D_ref_Has_b1_ok ?_) hrec
      simp only [D_ref_Has_b1]
      simp [hltD, hg, he, e2, -List.getElem?_map]
theorem HasP {l : List Int} {n : Int} (hs : Sz l.length) : callL pg 45 [LI l, I n] gh = some (B (decide (n ∈ l)), gh) := by
  have h := HasP_loop (gh := gh) (n := n) hs l.length 0 (by omega)
  rw [List.drop_zero] at h
  simp only [Int.natCast_zero] at h
  by_cases hn : n ∈ l
  · rw [if_pos hn] at h
    rw [decide_eq_true hn]
    refine callL_fn (fn := f_ref_Has) (s := ⟨[(4, B true)], [], gh⟩) rfl rfl (D_ref_Has_0_ok ?h1) ?r1
    case h1 =>
      simp only [LI] at *
      generalize l.map I = L at *
      simp [D_ref_Has_0, h]
    case r1 => simp [finish, results, f_ref_Has, resOfs, resOf, resOk]
  · rw [if_neg hn] at h
    rw [decide_eq_false hn]
    have hk : runL pg f_ref_Has_k1 ⟨[], [], gh⟩ = some (.ret, ⟨[(4, B false)], [], gh⟩) := D_ref_Has_k1_ok rfl
    refine callL_fn (fn := f_ref_Has) (s := ⟨[(4, B false)], [], gh⟩) rfl rfl (D_ref_Has_0_ok ?h2) ?r2
    case h2 =>
      simp only [LI] at *
      generalize l.map I = L at *
      simp [D_ref_Has_0, h, hk]
    case r2 => simp [finish, results, f_ref_Has, resOfs, resOf, resOk]
abbrev g1St (L : List (List Int)) (l T : List Int) (i : Nat) (gh : List GObj) : St := ⟨[(0, .sl false 1 (L.map fun l => LI l)), (1, LI l), (5, .sl true 1 (T.map I)), (6, I i)], [], gh⟩
theorem fo_l1 {l : List Int} (hl : ∀ n ∈ l, Small n) (hs : (l.length + 1) * 8 ≤ maxBytes) : ∀ (k i : Nat), i + k = l.length → (∀ x ∈ (l.take i).map (fun n => -n), -x ∉ (l.take i).map fun n => -n) →
    (runL pg f_ref_FollowsOf_l1 (g1St L l ((l.take i).map fun n => -n) i gh) = some (.ret, ⟨[(4, B true)], [], gh⟩) ∧ ∃ n ∈ l, -n ∈ l) ∨
    (runL pg f_ref_FollowsOf_l1 (g1St L l ((l.take i).map fun n => -n) i gh) = some (.normal, ⟨[(0, .sl false 1 (L.map fun l => LI l)), (5, .sl true 1 ((l.map fun n => -n).map I))], [], gh⟩) ∧ ∀ x ∈ l.map (fun n => -n), -x ∉ l.map fun n => -n) := by
  intro k
  induction k with
  | zero =>
    intro i hi hcon
    have : i = l.length := by omega
    subst this
    rw [List.take_length] at *
    have hlt : ¬ (l.length : Int) < (l.length : Int) := by omega
    refine .inr ⟨(lp_exit (s1 := ?s1) (D_ref_FollowsOf_b1_ok ?h1)).trans ?r1, hcon⟩
    case h1 => simp only [D_ref_FollowsOf_b1]; simp; rfl
    case r1 => simp [keep, stays]
  | succ k ih =>
    intro i hi hcon
    have hil : i < l.length := by omega
    obtain ⟨n, hn⟩ : ∃ n, l[i]? = some n := ⟨l[i], List.getElem?_eq_getElem hil⟩
    have ht : l.take (i + 1) = l.take i ++ [n] := by rw [List.take_add_one, hn]; rfl
    have hnm : n ∈ l := List.mem_of_getElem? hn
    have hx : (l.map I)[i]? = some (I n) := by rw [List.getElem?_map, hn]; rfl
    have hltI : (i : Int) < (l.length : Int) := by omega
    have hltD : decide (i < l.length) = true := decide_eq_true hil
    have hmx : maxBytes = 140737488355328 := rfl
    have hw : IntKind.i64.wrap (-n) = -n := wrap_id (hl n hnm).neg.inI.1 (hl n hnm).neg.inI.2
    have hwi : IntKind.i64.wrap ((i : Int) + 1) = (i : Int) + 1 := wrap_nat (by simp only [Sz]; omega)
    have htl : ((l.take i).map fun n => -n).length = i := by simp; omega
    have hh := HasP (gh := gh) (l := (l.take i).map fun n => -n) (n := n) (by rw [htl]; simp only [Sz]; omega)
    have hbd : (i + 1) * 8 ≤ maxBytes := by omega
    obtain ⟨T, hT⟩ : ∃ T, (l.take i).map (fun n => -n) = T := ⟨_, rfl⟩
    have hT2 : (l.take (i + 1)).map (fun n => -n) = T ++ [-n] := by rw [ht, List.map_append, hT]; rfl
    rw [hT] at hh htl hcon ⊢
    by_cases h1 : n ∈ T
    · rw [decide_eq_true h1] at hh
      refine .inl ⟨lp_ret (D_ref_FollowsOf_b1_ok ?h2), ?_⟩
      case h2 =>
        simp only [LI] at *
        generalize hTI : T.map I = TI at *
        simp only [D_ref_FollowsOf_b1]
        simp [hltD, hx, hh, -List.getElem?_map]
      rw [← hT] at h1
      obtain ⟨m, hm, e⟩ := List.mem_map.1 h1
      exact ⟨n, hnm, by rw [← e, Int.neg_neg]; exact List.mem_of_mem_take hm⟩
    · rw [decide_eq_false h1] at hh
      have hr := ih (i + 1) (by omega) (by
        rw [hT2]
        intro x hx hm
        rcases List.mem_append.1 hx with hx | hx
        · rcases List.mem_append.1 hm with hm | hm
          · exact hcon x hx hm
          · have : x = n := by have := List.mem_singleton.1 hm; omega
            exact h1 (this ▸ hx)
        · have ex := List.mem_singleton.1 hx
          subst ex
          rw [Int.neg_neg] at hm
          rcases List.mem_append.1 hm with hm | hm
          · exact h1 hm
          · have := List.mem_singleton.1 hm
            exact (hl n hnm).1 (by omega))
      rw [hT2] at hr
      have hst : runL pg f_ref_FollowsOf_b1 (g1St L l T i gh) = some (.normal, g1St L l (T ++ [-n]) (i + 1) gh) := by
        refine D_ref_FollowsOf_b1_ok ?_
        have hTl : (T.map I).length = i := by simpa using htl
        have hTm : (T ++ [-n]).map I = T.map I ++ [I (-n)] := by simp
        simp only [LI, g1St, hTm] at *
        generalize hTI : T.map I = TI at *
        simp only [D_ref_FollowsOf_b1]
        simp [hltD, hx, hh, hw, hwi, hTl, hbd, -List.getElem?_map]
      rw [show runL pg f_ref_FollowsOf_l1 (g1St L l T i gh) = runL pg f_ref_FollowsOf_l1 (g1St L l (T ++ [-n]) (i + 1) gh) from lp_next hst rfl]
      exact hr
end
end Go.Lw
end

/-! What follows from clauses (the document): all clauses, over and over. -/
section
namespace Go.Lw
open Go
section
variable {gh : List GObj} {L : List (List Int)} {T S : List Int}
abbrev LLp (L : List (List Int)) : List PV := L.map fun l => LI l
abbrev g4St (P : List PV) (T : List Int) (ch : Bool) (i : Nat) (l : Int) (m : Nat) (f : Bool) (k : Nat) (gh : List GObj) : St :=
  ⟨[(0, .sl false 1 P), (5, .sl true 1 (T.map I)), (7, B ch), (8, I i), (9, I l), (10, I m), (11, B f), (12, I k)], [], gh⟩
theorem fo_k3 {P Q : List PV} {o : Bool} {b7 b11 : Bool} {x8 x9 x10 : Int} {k : Nat} (hw : IntKind.i64.wrap ((k : Int) + 1) = ((k + 1 : Nat) : Int)) : runL pg f_ref_FollowsOf_k3 ⟨[(0, .sl false 1 P), (5, .sl o 1 Q), (7, B b7), (8, I x8), (9, I x9), (10, I x10), (11, B b11), (12, I k)], [], gh⟩ =
    some (.normal, ⟨[(0, .sl false 1 P), (5, .sl o 1 Q), (7, B b7), (8, I x8), (9, I x9), (10, I x10), (11, B b11), (12, I ((k + 1 : Nat) : Int))], [], gh⟩) :=
  D_ref_FollowsOf_k3_ok (by simp only [D_ref_FollowsOf_k3, stK, hw])
theorem fo_k2 {P : List PV} {b7 b11 : Bool} {x8 : Int} {k m : Nat} {l n : Int} (hT : Sz T.length) (hn : InI (-n)) (hm : IntKind.i64.wrap ((m : Int) + 1) = ((m + 1 : Nat) : Int)) :
    runL pg f_ref_FollowsOf_k2 ⟨[(0, .sl false 1 P), (5, .sl true 1 (T.map I)), (7, B b7), (8, I x8), (9, I l), (10, I m), (11, B b11), (12, I k), (13, I n)], [], gh⟩ =
    some (.normal, ⟨[(0, .sl false 1 P), (5, .sl true 1 (T.map I)), (7, B b7), (8, I x8), (9, I (if n ∉ T ∧ -n ∉ T ∧ n ≠ l then n else l)), (10, I ((if n ∉ T ∧ -n ∉ T ∧ n ≠ l then m + 1 else m : Nat) : Int)), (11, B b11), (12, I k)], [], gh⟩) := by
  have hh := HasP (gh := gh) (l := T) (n := n) hT
  have hh2 := HasP (gh := gh) (l := T) (n := -n) hT
  have hw : IntKind.i64.wrap (-n) = -n := wrap_id hn.1 hn.2
  simp only [LI] at hh hh2
  generalize hTI : T.map I = TI at *
  refine D_ref_FollowsOf_k2_ok ?_
  by_cases h1 : n ∈ T
  · rw [decide_eq_true h1] at hh
    rw [if_neg (by simp [h1]), if_neg (by simp [h1])]
    simp [D_ref_FollowsOf_k2, hh]
  · rw [decide_eq_false h1] at hh
    by_cases h2 : -n ∈ T
    · rw [decide_eq_true h2] at hh2
      rw [if_neg (by simp [h2]), if_neg (by simp [h2])]
      simp [D_ref_FollowsOf_k2, hh, hh2, hw]
    · rw [decide_eq_false h2] at hh2
      by_cases h3 : n = l
      · have h3' : decide (n = l) = true := decide_eq_true h3
        rw [if_neg (by simp [h3]), if_neg (by simp [h3])]
        simp [D_ref_FollowsOf_k2, hh, hh2, hw, h3']
      · have h3' : decide (n = l) = false := decide_eq_false h3
        rw [if_pos ⟨h1, h2, h3⟩, if_pos ⟨h1, h2, h3⟩]
        simp [D_ref_FollowsOf_k2, hh, hh2, hw, h3', hm]
theorem fo_l4 {P : List PV} {c : List Int} {ch : Bool} {i : Nat} (hx : P[i]? = some (LI c)) (hcs : ∀ n ∈ c, InI (-n)) (hT : Sz T.length) (hs : Sz c.length) : ∀ (d k : Nat) (l : Int) (m : Nat) (f : Bool), k + d = c.length → m ≤ k →
    runL pg f_ref_FollowsOf_l4 (g4St P T ch i l m f k gh) = some (.normal, ⟨[(0, .sl false 1 P), (5, .sl true 1 (T.map I)), (7, B ch), (8, I i), (9, I (scanF T (l, m, f) (c.drop k)).1), (10, I ((scanF T (l, m, f) (c.drop k)).2.1 : Nat)), (11, B (scanF T (l, m, f) (c.drop k)).2.2)], [], gh⟩) := by
  intro d
  induction d with
  | zero =>
    intro k l m f hk hm
    have : k = c.length := by omega
    subst this
    rw [List.drop_length, scanF]
    refine (lp_exit (s1 := ?s1) (D_ref_FollowsOf_b4_ok ?h1)).trans ?r1
    case h1 =>
      simp only [D_ref_FollowsOf_b4]
      simp [hx]; rfl
    case r1 => simp [keep, stays]
  | succ d ih =>
    intro k l m f hk hm
    have hkl : k < c.length := by omega
    obtain ⟨n, hn⟩ : ∃ n, c[k]? = some n := ⟨c[k], List.getElem?_eq_getElem hkl⟩
    have hd : c.drop k = n :: c.drop (k + 1) := by
      rw [List.drop_eq_getElem_cons hkl]
      rw [List.getElem?_eq_getElem hkl] at hn
      rw [Option.some.inj hn]
    have hnm : n ∈ c := List.mem_of_getElem? hn
    have hx2 : (c.map I)[k]? = some (I n) := by rw [List.getElem?_map, hn]; rfl
    have hltD : decide (k < c.length) = true := decide_eq_true hkl
    have hwk : IntKind.i64.wrap ((k : Int) + 1) = ((k + 1 : Nat) : Int) := wrap_nat (by simp only [Sz] at *; omega)
    have hwm : IntKind.i64.wrap ((m : Int) + 1) = ((m + 1 : Nat) : Int) := wrap_nat (by simp only [Sz] at *; omega)
    have hh := HasP (gh := gh) (l := T) (n := n) hT
    have hk2 := fun b11 => fo_k2 (gh := gh) (T := T) (P := P) (b7 := ch) (b11 := b11) (x8 := (i : Int)) (k := k) (m := m) (l := l) (n := n) hT (hcs n hnm) hwm
    have hk3 := fun b11 x9 x10 => fo_k3 (gh := gh) (P := P) (o := true) (Q := T.map I) (b7 := ch) (b11 := b11) (x8 := (i : Int)) (x9 := x9) (x10 := x10) (k := k) hwk
    rw [hd, scanF]
    have hr := ih (k + 1) (if n ∉ T ∧ -n ∉ T ∧ n ≠ l then n else l) (if n ∉ T ∧ -n ∉ T ∧ n ≠ l then m + 1 else m) (f || decide (n ∈ T)) (by omega) (by split <;> omega)
    refine (lp_next (D_ref_FollowsOf_b4_ok ?h2) rfl).trans hr
    case h2 =>
      simp only [D_ref_FollowsOf_b4, LI] at *
      generalize hl2 : (if n ∉ T ∧ -n ∉ T ∧ n ≠ l then n else l) = l2 at *
      generalize hm2 : (if n ∉ T ∧ -n ∉ T ∧ n ≠ l then m + 1 else m) = m2 at *
      generalize hTI : T.map I = TI at *
      by_cases h1 : n ∈ T
      · rw [decide_eq_true h1] at hh
        simp [hltD, hx, hx2, hh, hk2 true, hk3 true, keep, stays, h1, -List.getElem?_map]
        exact hTI.symm
      · rw [decide_eq_false h1] at hh
        simp [hltD, hx, hx2, hh, hk2 f, hk3 f, keep, stays, h1, -List.getElem?_map]
        exact hTI.symm
end
end Go.Lw
end

/-! What follows from clauses (the document), whole. -/
section
namespace Go.Lw
open Go
section
variable {gh : List GObj} {L : List (List Int)} {T S : List Int}
theorem passF_len : ∀ {l : List (List Int)} {T T2 : List Int}, passF T l = some T2 → T.length ≤ T2.length
  | [], T, T2, h => by rw [passF] at h; cases h; exact Nat.le_refl _
  | c :: l, T, T2, h => by
    rw [passF] at h
    split at h
    · exact passF_len h
    · split at h
      · cases h
      · split at h
        · have := passF_len h
          rw [List.length_append] at this; omega
        · exact passF_len h
abbrev g3St (P : List PV) (T : List Int) (ch : Bool) (i : Nat) (gh : List GObj) : St := ⟨[(0, .sl false 1 P), (5, .sl true 1 (T.map I)), (7, B ch), (8, I i)], [], gh⟩
theorem fo_k5 {P Q : List PV} {b7 : Bool} {i : Nat} (hw : IntKind.i64.wrap ((i : Int) + 1) = ((i + 1 : Nat) : Int)) : runL pg f_ref_FollowsOf_k5 ⟨[(0, .sl false 1 P), (5, .sl true 1 Q), (7, B b7), (8, I i)], [], gh⟩ =
    some (.normal, ⟨[(0, .sl false 1 P), (5, .sl true 1 Q), (7, B b7), (8, I ((i + 1 : Nat) : Int))], [], gh⟩) :=
  D_ref_FollowsOf_k5_ok (by simp only [D_ref_FollowsOf_k5, stK, hw])
theorem fo_k4_fine {P Q : List PV} {b7 : Bool} {x8 x9 x10 : Int} : runL pg f_ref_FollowsOf_k4 ⟨[(0, .sl false 1 P), (5, .sl true 1 Q), (7, B b7), (8, I x8), (9, I x9), (10, I x10), (11, B true)], [], gh⟩ =
    some (.exit 5, ⟨[(0, .sl false 1 P), (5, .sl true 1 Q), (7, B b7), (8, I x8), (9, I x9), (10, I x10), (79, B true)], [], gh⟩) :=
  D_ref_FollowsOf_k4_ok (by simp [D_ref_FollowsOf_k4])
theorem fo_k4_none {P Q : List PV} {b7 : Bool} {x8 x9 : Int} : runL pg f_ref_FollowsOf_k4 ⟨[(0, .sl false 1 P), (5, .sl true 1 Q), (7, B b7), (8, I x8), (9, I x9), (10, I ((0 : Nat) : Int)), (11, B false)], [], gh⟩ =
    some (.ret, ⟨[(4, B true)], [], gh⟩) :=
  D_ref_FollowsOf_k4_ok (by simp [D_ref_FollowsOf_k4])
theorem fo_k4_one {P Q : List PV} {b7 : Bool} {x8 x9 : Int} (hB : (Q.length + 1) * 8 ≤ maxBytes) : runL pg f_ref_FollowsOf_k4 ⟨[(0, .sl false 1 P), (5, .sl true 1 Q), (7, B b7), (8, I x8), (9, I x9), (10, I ((1 : Nat) : Int)), (11, B false)], [], gh⟩ =
    some (.normal, ⟨[(0, .sl false 1 P), (5, .sl true 1 (Q ++ [I x9])), (7, B true), (8, I x8)], [], gh⟩) :=
  D_ref_FollowsOf_k4_ok (by simp [D_ref_FollowsOf_k4, hB])
theorem fo_k4_more {P Q : List PV} {b7 : Bool} {x8 x9 : Int} {m : Nat} (hm : 2 ≤ m) : runL pg f_ref_FollowsOf_k4 ⟨[(0, .sl false 1 P), (5, .sl true 1 Q), (7, B b7), (8, I x8), (9, I x9), (10, I m), (11, B false)], [], gh⟩ =
    some (.normal, ⟨[(0, .sl false 1 P), (5, .sl true 1 Q), (7, B b7), (8, I x8)], [], gh⟩) := by
  have h0 : ¬ (m : Int) = 0 := by omega
  have h1 : ¬ (m : Int) = 1 := by omega
  exact D_ref_FollowsOf_k4_ok (by simp only [D_ref_FollowsOf_k4, beqI, h0, h1, decide_false, br_false, stK])
theorem fo_l3 (h0 : ∀ c ∈ L, c.length ≤ 200 ∧ ∀ n ∈ c, Small n) (hLs : L.length ≤ 1600000) {W : Nat} (hW : (W + 1) * 8 ≤ maxBytes) : ∀ (d i : Nat) (T : List Int) (ch : Bool), i + d = L.length → SoOk L S T → T.length + still L T ≤ W →
    match passF T (L.drop i) with
    | none => runL pg f_ref_FollowsOf_l3 (g3St (LLp L) T ch i gh) = some (.ret, ⟨[(4, B true)], [], gh⟩)
    | some T2 => runL pg f_ref_FollowsOf_l3 (g3St (LLp L) T ch i gh) = some (.normal, ⟨[(0, .sl false 1 (LLp L)), (5, .sl true 1 (T2.map I)), (7, B (ch || decide (T2 ≠ T)))], [], gh⟩) := by
  have hmx : maxBytes = 140737488355328 := rfl
  have hPl : (LLp L).length = L.length := by simp
  intro d
  induction d with
  | zero =>
    intro i T ch hi hT hTW
    have : i = L.length := by omega
    subst this
    rw [List.drop_length, passF]
    simp only
    refine (lp_exit (s1 := ⟨[(0, .sl false 1 (LLp L)), (5, .sl true 1 (T.map I)), (7, B ch), (8, I L.length), (38, B false)], [], gh⟩) (D_ref_FollowsOf_b3_ok ?h1)).trans ?r1
    case h1 =>
      simp only [D_ref_FollowsOf_b3]
      generalize LLp L = P at *
      simp [hPl]
    case r1 => simp [keep, stays]
  | succ d ih =>
    intro i T ch hi hT hTW
    have hil : i < L.length := by omega
    obtain ⟨c, hc⟩ : ∃ c, L[i]? = some c := ⟨L[i], List.getElem?_eq_getElem hil⟩
    have hd : L.drop i = c :: L.drop (i + 1) := by
      rw [List.drop_eq_getElem_cons hil]
      rw [List.getElem?_eq_getElem hil] at hc
      rw [Option.some.inj hc]
    have hcm : c ∈ L := List.mem_of_getElem? hc
    have hx : (LLp L)[i]? = some (LI c) := by simp only [LLp]; rw [List.getElem?_map, hc]; rfl
    have hltD : decide (i < L.length) = true := decide_eq_true hil
    have hwi : IntKind.i64.wrap ((i : Int) + 1) = ((i + 1 : Nat) : Int) := wrap_nat (by simp only [Sz]; omega)
    have hTs : Sz T.length := by simp only [Sz]; omega
    have hc0 := h0 c hcm
    have hl4 := fo_l4 (gh := gh) (P := LLp L) (ch := ch) (i := i) hx (fun n hn => (hc0.2 n hn).neg.inI) hTs (by simp only [Sz]; omega) c.length 0 0 0 false (by omega) (Nat.le_refl _)
    rw [List.drop_zero] at hl4
    have hsd := fun hf => scan_der hT hcm (fun n hn => (hc0.2 n hn).1) hf
    have hb3 : ∀ {e : IExit} {s : St}, runL pg f_ref_FollowsOf_k4 ⟨[(0, .sl false 1 (LLp L)), (5, .sl true 1 (T.map I)), (7, B ch), (8, I i), (9, I (scanF T (0, 0, false) c).1), (10, I ((scanF T (0, 0, false) c).2.1 : Nat)), (11, B (scanF T (0, 0, false) c).2.2)], [], gh⟩ = some (e, s) →
        (e = .ret → runL pg f_ref_FollowsOf_b3 (g3St (LLp L) T ch i gh) = some (.ret, s)) ∧
        (∀ Q ch' env, (e = .normal ∧ env = [] ∨ e = .exit 5) → s = ⟨[(0, .sl false 1 (LLp L)), (5, .sl true 1 Q), (7, B ch'), (8, I i)] ++ env, [], gh⟩ → runL pg f_ref_FollowsOf_b3 (g3St (LLp L) T ch i gh) = some (.normal, ⟨[(0, .sl false 1 (LLp L)), (5, .sl true 1 Q), (7, B ch'), (8, I ((i + 1 : Nat) : Int))], [], gh⟩)) := by
      intro e s hk4
      unfold g4St at hl4
      refine ⟨fun he => ?_, fun Q ch' env he hs => ?_⟩
      · subst he
        refine D_ref_FollowsOf_b3_ok ?_
        simp only [D_ref_FollowsOf_b3, Int.natCast_zero] at *
        generalize scanF T (0, 0, false) c = r at *
        generalize LLp L = P at *
        generalize T.map I = TI at *
        simp [hPl, hltD, hl4, hk4]
      · subst hs
        have hk5 := fo_k5 (gh := gh) (P := LLp L) (Q := Q) (b7 := ch') hwi
        refine D_ref_FollowsOf_b3_ok ?_
        simp only [D_ref_FollowsOf_b3, Int.natCast_zero] at *
        generalize scanF T (0, 0, false) c = r at *
        generalize LLp L = P at *
        generalize T.map I = TI at *
        rcases he with ⟨rfl, rfl⟩ | rfl
        · simp [hPl, hltD, hl4, hk4, hk5, keep, stays]
        · simp [hPl, hltD, hl4, hk4, hk5, keep, stays]
    rw [hd, passF]
    generalize scanF T (0, 0, false) c = r at *
    obtain ⟨l, m, f⟩ := r
    simp only at *
    cases f with
    | true =>
      rw [if_pos rfl]
      have hst := (hb3 fo_k4_fine).2 (T.map I) ch [(9, I l), (10, I m), (79, B true)] (.inr rfl) rfl
      have hr := ih (i + 1) T ch (by omega) hT hTW
      have hgo : runL pg f_ref_FollowsOf_l3 (g3St (LLp L) T ch i gh) = runL pg f_ref_FollowsOf_l3 (g3St (LLp L) T ch (i + 1) gh) := lp_next hst rfl
      rw [hgo]
      exact hr
    | false =>
      rw [if_neg (by simp)]
      obtain ⟨d0, d1⟩ := hsd rfl
      by_cases hm0 : m = 0
      · subst hm0
        rw [if_pos rfl]
        simp only
        exact lp_ret ((hb3 fo_k4_none).1 rfl)
      · rw [if_neg hm0]
        by_cases hm1 : m = 1
        · subst hm1
          rw [if_pos rfl]
          obtain ⟨hT2, hlc, hlT⟩ := d1 rfl
          have hsl := still_lt hcm hlc hlT
          have hst := (hb3 (fo_k4_one (by rw [List.length_map]; omega))).2 (T.map I ++ [I l]) true [] (.inl ⟨rfl, rfl⟩) rfl
          have hr := ih (i + 1) (T ++ [l]) true (by omega) hT2 (by rw [List.length_append, List.length_singleton]; omega)
          have hTm : (T ++ [l]).map I = T.map I ++ [I l] := by simp
          have hgo : runL pg f_ref_FollowsOf_l3 (g3St (LLp L) T ch i gh) = runL pg f_ref_FollowsOf_l3 (g3St (LLp L) (T ++ [l]) true (i + 1) gh) := lp_next hst (by unfold g3St; rw [hTm]; rfl)
          rw [hgo]
          cases hp : passF (T ++ [l]) (L.drop (i + 1)) with
          | none => rw [hp] at hr; exact hr
          | some T2 =>
            rw [hp] at hr
            have hne : T2 ≠ T := fun e => by
              have := passF_len hp
              rw [e, List.length_append, List.length_singleton] at this; omega
            simp only at hr ⊢
            rw [decide_eq_true hne, Bool.or_true]
            rw [Bool.true_or] at hr
            exact hr
        · rw [if_neg hm1]
          have hst := (hb3 (fo_k4_more (m := m) (by omega))).2 (T.map I) ch [] (.inl ⟨rfl, rfl⟩) rfl
          have hr := ih (i + 1) T ch (by omega) hT hTW
          have hgo : runL pg f_ref_FollowsOf_l3 (g3St (LLp L) T ch i gh) = runL pg f_ref_FollowsOf_l3 (g3St (LLp L) T ch (i + 1) gh) := lp_next hst rfl
          rw [hgo]
          exact hr
abbrev g2St (P : List PV) (T : List Int) (ch : Bool) (gh : List GObj) : St := ⟨[(0, .sl false 1 P), (5, .sl true 1 (T.map I)), (7, B ch)], [], gh⟩
theorem fo_l2_end {P : List PV} : runL pg f_ref_FollowsOf_l2 (g2St P T false gh) = some (.normal, ⟨[], [], gh⟩) := by
  refine (lp_exit (s1 := ⟨[(0, .sl false 1 P), (5, .sl true 1 (T.map I)), (34, B false)], [], gh⟩) (D_ref_FollowsOf_b2_ok ?h1)).trans ?r1
  case h1 => simp [D_ref_FollowsOf_b2]
  case r1 => simp [keep]
theorem fo_l2 (h0 : ∀ c ∈ L, c.length ≤ 200 ∧ ∀ n ∈ c, Small n) (hLs : L.length ≤ 1600000) {W : Nat} (hW : (W + 1) * 8 ≤ maxBytes) : ∀ (N : Nat) (T : List Int), still L T < N → SoOk L S T → T.length + still L T ≤ W →
    (runL pg f_ref_FollowsOf_l2 (g2St (LLp L) T true gh) = some (.ret, ⟨[(4, B true)], [], gh⟩) ∧ Conf L S) ∨
    (runL pg f_ref_FollowsOf_l2 (g2St (LLp L) T true gh) = some (.normal, ⟨[], [], gh⟩) ∧ ¬ Conf L S) := by
  have hnz : ∀ c ∈ L, ∀ n ∈ c, n ≠ 0 := fun c hc n hn => ((h0 c hc).2 n hn).1
  intro N
  induction N with
  | zero => intro T hN; omega
  | succ N ih =>
    intro T hN hT hTW
    have hl3 := fo_l3 (gh := gh) h0 hLs hW L.length 0 T false (by omega) hT hTW
    have hok := pass_ok hnz (fun c hc => hc) hT
    rw [List.drop_zero] at hl3
    have hb2 : ∀ {e : IExit} {s : St}, runL pg f_ref_FollowsOf_l3 (g3St (LLp L) T false 0 gh) = some (e, s) →
        (e = .ret → runL pg f_ref_FollowsOf_b2 (g2St (LLp L) T true gh) = some (.ret, s)) ∧
        (∀ Q ch', e = .normal → s = ⟨[(0, .sl false 1 (LLp L)), (5, .sl true 1 Q), (7, B ch')], [], gh⟩ → runL pg f_ref_FollowsOf_b2 (g2St (LLp L) T true gh) = some (.normal, s)) := by
      intro e s h3
      unfold g3St at h3
      refine ⟨fun he => ?_, fun Q ch' he hs => ?_⟩
      · subst he
        refine D_ref_FollowsOf_b2_ok ?_
        simp only [D_ref_FollowsOf_b2, Int.natCast_zero] at *
        generalize LLp L = P at *
        generalize T.map I = TI at *
        simp [h3]
      · subst he; subst hs
        refine D_ref_FollowsOf_b2_ok ?_
        simp only [D_ref_FollowsOf_b2, Int.natCast_zero] at *
        generalize LLp L = P at *
        generalize T.map I = TI at *
        simp [h3, keep, stays]
    cases hp : passF T L with
    | none =>
      rw [hp] at hl3 hok
      exact .inl ⟨lp_ret ((hb2 hl3).1 rfl), hok⟩
    | some T2 =>
      rw [hp] at hl3 hok
      obtain ⟨o1, o2, o3, o4, o5⟩ := hok
      simp only [Bool.false_or] at hl3
      have hst := (hb2 hl3).2 (T2.map I) _ rfl rfl
      have hgo : runL pg f_ref_FollowsOf_l2 (g2St (LLp L) T true gh) = runL pg f_ref_FollowsOf_l2 (g2St (LLp L) T2 (decide (T2 ≠ T)) gh) := lp_next hst rfl
      rw [hgo]
      by_cases he : T2 = T
      · subst he
        rw [show decide (T2 ≠ T2) = false from decide_eq_false (fun h => h rfl)]
        exact .inr ⟨fo_l2_end, pass_end hnz hT hp⟩
      · rw [decide_eq_true he]
        exact ih T2 (by have := o3 he; omega) o1 (by omega)
open Classical in
theorem FollowsOf_eq (hL : L.length ≤ 1600000) (h0 : ∀ c ∈ L, c.length ≤ 200 ∧ ∀ n ∈ c, Small n) {l : List Int} (hl : l.length ≤ 200 ∧ ∀ n ∈ l, Small n) : callL pg 146 [.sl false 1 (LLp L), LI l] gh = some (B (decide (Conf L (l.map fun n => -n))), gh) := by
  have hmx : maxBytes = 140737488355328 := rfl
  have hl1 := hl.1
  have hf : L.flatten.length ≤ 200 * L.length := by
    clear hL
    induction L with
    | nil => simp
    | cons c L ih =>
      have h1 := (h0 c (by simp)).1
      have h2 := ih fun c hc => h0 c (by simp [hc])
      rw [List.flatten_cons, List.length_append, List.length_cons]
      omega
  have fin : ∀ r : Bool, (runL pg f_ref_FollowsOf_l1 (g1St L l [] 0 gh) = some (.ret, ⟨[(4, B r)], [], gh⟩) ∨ ∃ Q, runL pg f_ref_FollowsOf_l1 (g1St L l [] 0 gh) = some (.normal, ⟨[(0, .sl false 1 (LLp L)), (5, .sl true 1 Q)], [], gh⟩) ∧ runL pg f_ref_FollowsOf_k1 ⟨[(0, .sl false 1 (LLp L)), (5, .sl true 1 Q)], [], gh⟩ = some (.ret, ⟨[(4, B r)], [], gh⟩)) →
      callL pg 146 [.sl false 1 (LLp L), LI l] gh = some (B r, gh) := by
    intro r hr
    refine callL_fn (fn := f_ref_FollowsOf) (s := ⟨[(4, B r)], [], gh⟩) rfl rfl (D_ref_FollowsOf_0_ok ?h1) ?r1
    case h1 =>
      have hr : runL pg f_ref_FollowsOf_l1 ⟨[(0, .sl false 1 (LLp L)), (1, LI l), (5, .sl true 1 []), (6, I 0)], [], gh⟩ = some (.ret, ⟨[(4, B r)], [], gh⟩) ∨ ∃ Q, runL pg f_ref_FollowsOf_l1 ⟨[(0, .sl false 1 (LLp L)), (1, LI l), (5, .sl true 1 []), (6, I 0)], [], gh⟩ = some (.normal, ⟨[(0, .sl false 1 (LLp L)), (5, .sl true 1 Q)], [], gh⟩) ∧ runL pg f_ref_FollowsOf_k1 ⟨[(0, .sl false 1 (LLp L)), (5, .sl true 1 Q)], [], gh⟩ = some (.ret, ⟨[(4, B r)], [], gh⟩) := hr
      clear hl hf h0 hL hl1
      simp only [D_ref_FollowsOf_0, LI] at *
      generalize LLp L = P at *
      generalize l.map I = v at *
      rcases hr with hr | ⟨Q, hr, hr2⟩
      · simp [hr]
      · simp [hr, hr2]
    case r1 => simp [finish, results, f_ref_FollowsOf, resOfs, resOf, get, resOk]
  rcases fo_l1 (gh := gh) (L := L) hl.2 (by omega) l.length 0 (by omega) (by simp) with ⟨h1, n, hn, hm⟩ | ⟨h1, hcon⟩
  · rw [List.take_zero, List.map_nil] at h1
    have hconf : Conf L (l.map fun n => -n) := .inl ⟨-n, .base (List.mem_map.2 ⟨n, hn, rfl⟩), .base (List.mem_map.2 ⟨-n, hm, by omega⟩)⟩
    rw [decide_eq_true hconf]
    exact fin true (.inl h1)
  · rw [List.take_zero, List.map_nil] at h1
    have hT : SoOk L (l.map fun n => -n) (l.map fun n => -n) := ⟨fun x hx => hx, fun x hx => .base hx, hcon, fun x hx => by
      obtain ⟨n, hn, rfl⟩ := List.mem_map.1 hx
      exact (hl.2 n hn).neg.1⟩
    have hsl := still_le L (l.map fun n => -n)
    have hk1 : ∀ (r : Bool), (runL pg f_ref_FollowsOf_l2 (g2St (LLp L) (l.map fun n => -n) true gh) = some (.ret, ⟨[(4, B r)], [], gh⟩) ∨ runL pg f_ref_FollowsOf_l2 (g2St (LLp L) (l.map fun n => -n) true gh) = some (.normal, ⟨[], [], gh⟩) ∧ r = false) →
        runL pg f_ref_FollowsOf_k1 ⟨[(0, .sl false 1 (LLp L)), (5, .sl true 1 ((l.map fun n => -n).map I))], [], gh⟩ = some (.ret, ⟨[(4, B r)], [], gh⟩) := by
      intro r hr
      refine D_ref_FollowsOf_k1_ok ?_
      unfold g2St at hr
      simp only [D_ref_FollowsOf_k1]
      generalize LLp L = P at *
      generalize (l.map fun n => -n).map I = Q at *
      rcases hr with hr | ⟨hr, rfl⟩
      · simp [hr]
      · have k6 : runL pg f_ref_FollowsOf_k6 ⟨[], [], gh⟩ = some (.ret, ⟨[(4, B false)], [], gh⟩) := D_ref_FollowsOf_k6_ok rfl
        simp [hr, k6]
    rcases fo_l2 (gh := gh) h0 hL (W := l.length + L.flatten.length) (by omega) _ _ (Nat.lt_succ_self _) hT (by rw [List.length_map]; omega) with ⟨q1, q2⟩ | ⟨q1, q2⟩
    · rw [decide_eq_true q2]
      exact fin true (.inr ⟨_, h1, hk1 true (.inl q1)⟩)
    · rw [decide_eq_false q2]
      exact fin false (.inr ⟨_, h1, hk1 false (.inr ⟨q1, rfl⟩)⟩)
end
end Go.Lw
end

/-! What the functions of package gates come to. -/
section
namespace Go.Lw
open Go
theorem IndexFunc_loop {xs : List Int} {c : Nat} {caps : List PV} {gh : List GObj} {p : Int → Bool} (hc : ∀ x ∈ xs, callL pg c (I x :: caps) gh = some (B (p x), gh)) (hcap : caps.all argOk = true) (hs : Sz xs.length) :
    ∀ k i, i + k = xs.length → runL pg f_slices_IndexFunc_Lint_int_l1 ⟨[(0, LI xs), (1, .fn c caps), (7, I xs.length), (8, I i)], [], gh⟩ =
      match (xs.drop i).findIdx? p with
      | some j => some (.ret, ⟨[(4, I ((i + j : Nat)))], [], gh⟩)
      | none => some (.normal, ⟨[], [], gh⟩)
  | 0, i, h => by
    rw [List.drop_eq_nil_of_le (by omega)]
    refine (lp_exit (s1 := ?s1) (D_slices_IndexFunc_Lint_int_b1_ok ?h1)).trans ?r1
    case h1 => simp [D_slices_IndexFunc_Lint_int_b1, show i = xs.length by omega]; rfl
    case r1 => simp [keep]
  | k + 1, i, h => by
    have hlt : i < xs.length := by omega
    have hx : xs[i]? = some xs[i] := List.getElem?_eq_getElem hlt
    rw [List.drop_eq_getElem_cons hlt, List.findIdx?_cons]
    cases hp : p xs[i] with
    | true =>
      refine (lp_ret (s1 := ?s2) (D_slices_IndexFunc_Lint_int_b1_ok ?h2)).trans ?r2
      case h2 => simp [D_slices_IndexFunc_Lint_int_b1, hlt, hx, allK_ok hcap, hc xs[i] (List.getElem_mem hlt), hp]; rfl
      case r2 => simp
    | false =>
      refine lp_next (s1 := ?s3) (D_slices_IndexFunc_Lint_int_b1_ok ?h3) ?r3
      case h3 => simp [D_slices_IndexFunc_Lint_int_b1, hlt, hx, allK_ok hcap, hc xs[i] (List.getElem_mem hlt), hp]; rfl
      case r3 =>
        rw [wrap_nat (by omega)]
        refine (IndexFunc_loop hc hcap hs k (i + 1) (by omega)).trans ?_
        cases (xs.drop (i + 1)).findIdx? p <;> simp
        omega
theorem IndexFunc_eq {xs : List Int} {c : Nat} {caps : List PV} {gh : List GObj} {p : Int → Bool} (hc : ∀ x ∈ xs, callL pg c (I x :: caps) gh = some (B (p x), gh)) (hcap : caps.all argOk = true) (hs : Sz xs.length) :
    callL pg 111 [LI xs, .fn c caps] gh = some (I (match xs.findIdx? p with | some j => (j : Int) | none => -1), gh) := by
  have hl := IndexFunc_loop hc hcap hs xs.length 0 (by omega)
  simp only [List.drop_zero, Nat.zero_add, Int.natCast_zero] at hl
  cases hf : xs.findIdx? p with
  | some j =>
    rw [hf] at hl
    refine callL_fn (fn := f_slices_IndexFunc_Lint_int) (s := ?s4) rfl rfl (D_slices_IndexFunc_Lint_int_0_ok ?h4) ?r4
    case h4 => simp [D_slices_IndexFunc_Lint_int_0, hl]; rfl
    case r4 => simp [finish, results, f_slices_IndexFunc_Lint_int, resOfs, resOf, resOk, argOk, PV.one, PV.noG]
  | none =>
    rw [hf] at hl
    refine callL_fn (fn := f_slices_IndexFunc_Lint_int) (s := ?s5) rfl rfl (D_slices_IndexFunc_Lint_int_0_ok ?h5) ?r5
    case h5 => simp [D_slices_IndexFunc_Lint_int_0, hl, D_slices_IndexFunc_Lint_int_k1_ok (s := ⟨[(4, I (-1))], [], gh⟩) (e := .ret) rfl]; rfl
    case r5 => simp [finish, results, f_slices_IndexFunc_Lint_int, resOfs, resOf, resOk, argOk, PV.one, PV.noG]
theorem ContainsFunc_eq {xs : List Int} {c : Nat} {caps : List PV} {gh : List GObj} {p : Int → Bool} (hc : ∀ x ∈ xs, callL pg c (I x :: caps) gh = some (B (p x), gh)) (hcap : caps.all argOk = true) (hs : Sz xs.length) :
    callL pg 86 [LI xs, .fn c caps] gh = some (B (xs.any p), gh) := by
  refine callL_fn (fn := f_slices_ContainsFunc_Lint_int) (s := ?s6) rfl rfl (D_slices_ContainsFunc_Lint_int_0_ok ?h6) ?r6
  case h6 => simp [D_slices_ContainsFunc_Lint_int_0, IndexFunc_eq hc hcap hs]; rfl
  case r6 =>
    have : (decide (0 ≤ (match xs.findIdx? p with | some j => (j : Int) | none => -1))) = xs.any p := by
      cases hf : xs.findIdx? p with
      | some j =>
        have := List.findIdx?_eq_some_iff_getElem.1 hf
        obtain ⟨hj, hpj, _⟩ := this
        simp only [Int.natCast_nonneg, decide_true]
        exact (List.any_eq_true.2 ⟨_, List.getElem_mem hj, hpj⟩).symm
      | none =>
        have := List.findIdx?_eq_none_iff.1 hf
        simp only [show decide ((0 : Int) ≤ -1) = false by decide]
        exact (List.any_eq_false.2 fun x hx => by simp [this x hx]).symm
    simp [finish, results, f_slices_ContainsFunc_Lint_int, resOfs, resOf, resOk, argOk, PV.one, PV.noG, this]
end Go.Lw
end

/-! Graphs: maps whose keys are Ands, and the check of a graph. -/
section
namespace Go.Lw
open Go
def badA (ins : Int) (i : Nat) (x : Int × Int) : Prop := x.2 ≤ x.1 ∨ x.1 < 2 ∨ 2 * (1 + ins + i) ≤ x.2 ∨ x.1 / 2 = x.2 / 2
instance (ins : Int) (i : Nat) (x : Int × Int) : Decidable (badA ins i x) := inferInstanceAs (Decidable (_ ∨ _))
section
variable {ins : Int} {ands : List (Int × Int)} {gh : List GObj}
end
end Go.Lw
end

/-! Clauses: what the program makes and checks. -/
section
namespace Go.Lw
open Go
def clV (vars : Int) (cls : List (List Int)) : PV := .agg [I vars, .sl false 1 (cls.map fun l => LI l)]
theorem noGs_ints (l : List Int) : noGs (l.map I) = true := by
  induction l with
  | nil => rfl
  | cons x l ih => simp [ih]
theorem noGs_lists (l : List (List Int)) : noGs (l.map fun l => LI l) = true := by
  induction l with
  | nil => rfl
  | cons x l ih => simp [ih, noGs_ints]
section
variable {gh : List GObj} {x y : GObj}
end
section
variable {ins : Int} {ands : List (Int × Int)} {gh : List GObj}
def badN (vars n : Int) : Bool := decide (n = 0 ∨ vars < n ∨ n < IntKind.i64.wrap (-vars))
theorem one1_eq {n vars : Int} {b : Nat} (hb : gh[b]? = some (.cells [I vars])) : callL pg 113 [I n, .ptr true b 0] gh = some (B (badN vars n), gh) := by
  by_cases h0 : n = 0
  · refine callL_fn (fn := f_cnf_one_1) (s := ?s1) rfl rfl (D_cnf_one_1_0_ok ?h1) ?r1
    case h1 => simp [D_cnf_one_1_0, h0]; rfl
    case r1 => simp [finish, results, f_cnf_one_1, resOfs, resOf, resOk, badN, h0]
  by_cases h1 : vars < n
  · refine callL_fn (fn := f_cnf_one_1) (s := ?s2) rfl rfl (D_cnf_one_1_0_ok ?h2) ?r2
    case h2 => simp [D_cnf_one_1_0, h0, hb, h1]; rfl
    case r2 => simp [finish, results, f_cnf_one_1, resOfs, resOf, resOk, badN, h1]
  · refine callL_fn (fn := f_cnf_one_1) (s := ?s3) rfl rfl (D_cnf_one_1_0_ok ?h3) ?r3
    case h3 => simp [D_cnf_one_1_0, h0, hb, h1]; rfl
    case r3 => simp [finish, results, f_cnf_one_1, resOfs, resOf, resOk, badN, h0, h1]
def oneE (vars : Int) (l : List Int) : Int := if 200 < l.length then 2 else if l.any (badN vars) then 5 else 0
theorem one_eq {vars : Int} {l : List Int} (hs : Sz l.length) : callL pg 94 [I vars, LI l] gh = some (I (oneE vars l), gh) := by
  by_cases h : 200 < l.length
  · have hI : (200 : Int) < (l.length : Int) := by omega
    refine callL_fn (fn := f_cnf_one) (s := ?s1) rfl rfl (D_cnf_one_0_ok ?h1) ?r1
    case h1 => simp [D_cnf_one_0, hI]; rfl
    case r1 => simp [finish, results, f_cnf_one, resOfs, resOf, resOk, oneE, h]
  · have hI : ¬ (200 : Int) < (l.length : Int) := by omega
    have hc : ∀ x ∈ l, callL pg 113 (I x :: [.ptr true gh.length 0]) (gh ++ [.cells [I vars]]) = some (B (badN vars x), gh ++ [.cells [I vars]]) := fun x _ => one1_eq (by simp)
    have := ContainsFunc_eq (caps := [.ptr true gh.length 0]) hc (by simp) hs
    cases hb : l.any (badN vars) with
    | true =>
      rw [hb] at this
      refine callL_fn (fn := f_cnf_one) (s := ?s2) rfl rfl (D_cnf_one_0_ok ?h2) ?r2
      case h2 => simp [D_cnf_one_0, hI, this]; rfl
      case r2 => simp [finish, results, f_cnf_one, resOfs, resOf, resOk, oneE, h, hb]
    | false =>
      rw [hb] at this
      refine callL_fn (fn := f_cnf_one) (s := ?s3) rfl rfl (D_cnf_one_0_ok ?h3) ?r3
      case h3 => simp [D_cnf_one_0, hI, this]; rfl
      case r3 => simp [finish, results, f_cnf_one, resOfs, resOf, resOk, oneE, h, hb]
def firstE (vars : Int) : List (List Int) → Int
  | [] => 0
  | l :: r => if oneE vars l = 0 then firstE vars r else oneE vars l
def clsE (vars : Int) (cls : List (List Int)) : Int := if vars < 0 ∨ 200000 < vars then 3 else if 800000 < cls.length then 2 else firstE vars cls
def SL (cls : List (List Int)) : Prop := ∀ l ∈ cls, Sz l.length
theorem CheckC_loop {vars : Int} {cls : List (List Int)} (hs : SL cls) (hl : cls.length ≤ 800000) : ∀ k i, i + k = cls.length →
    runL pg f_cnf_Check_l1 ⟨[(1, .ptr false 0 0), (19, .sl false 1 (cls.map fun l => LI l)), (20, I cls.length), (21, I (i : Int))], [[I vars, .sl false 1 (cls.map fun l => LI l)]], gh⟩ =
      if firstE vars (cls.drop i) = 0 then some (.normal, ⟨[], [], gh⟩) else some (.ret, ⟨[(2, I (firstE vars (cls.drop i)))], [], gh⟩)
  | 0, i, h => by
    rw [List.drop_eq_nil_of_le (by omega), firstE, if_pos rfl]
    have hlt : ¬ (i : Int) < (cls.length : Int) := by omega
    refine (lp_exit (s1 := ?s1) (D_cnf_Check_b1_ok ?h1)).trans ?r1
    case h1 => simp only [D_cnf_Check_b1, decide_eq_false hlt, br_false]; rfl
    case r1 => simp [keep]
  | k + 1, i, h => by
    have hlt : i < cls.length := by omega
    have hltI : (i : Int) < (cls.length : Int) := by omega
    have e2 : IntKind.i64.wrap ((i : Int) + 1) = ((i + 1 : Nat) : Int) := by rw [wrap_id (by omega) (by omega)]; omega
    have hx : (cls.map fun l => LI l)[i]? = some (LI cls[i]) := by simp [List.getElem?_eq_getElem hlt]
    have h1 := one_eq (gh := gh) (vars := vars) (hs _ (List.getElem_mem hlt))
    rw [List.drop_eq_getElem_cons hlt, firstE]
    by_cases he : oneE vars cls[i] = 0
    · rw [if_pos he]
      rw [he] at h1
      refine lp_next (s1 := ⟨[(1, .ptr false 0 0), (19, .sl false 1 (cls.map fun l => LI l)), (20, I cls.length), (21, I ((i + 1 : Nat) : Int))], [[I vars, .sl false 1 (cls.map fun l => LI l)]], gh⟩) (D_cnf_Check_b1_ok ?h2) (CheckC_loop hs hl k (i + 1) (by omega))
      case h2 => simp [D_cnf_Check_b1, hltI, hx, h1, e2, -List.getElem?_map]
    · rw [if_neg he, if_neg he]
      refine lp_ret (D_cnf_Check_b1_ok ?h3)
      case h3 => simp [D_cnf_Check_b1, hltI, hx, h1, he, -List.getElem?_map]
theorem CheckC_eq {vars : Int} {cls : List (List Int)} (hs : SL cls) : callL pg 59 [clV vars cls] gh = some (I (clsE vars cls), gh) := by
  by_cases h1 : vars < 0
  · refine callL_fn (fn := f_cnf_Check) (s := ?s1) rfl rfl (D_cnf_Check_0_ok ?h1) ?r1
    case h1 => simp [D_cnf_Check_0, h1]; rfl
    case r1 => simp [finish, results, f_cnf_Check, resOfs, resOf, resOk, clsE, h1]
  by_cases h2 : 200000 < vars
  · refine callL_fn (fn := f_cnf_Check) (s := ?s2) rfl rfl (D_cnf_Check_0_ok ?h2) ?r2
    case h2 => simp [D_cnf_Check_0, h1, h2]; rfl
    case r2 => simp [finish, results, f_cnf_Check, resOfs, resOf, resOk, clsE, h2]
  have h12 : ¬ (vars < 0 ∨ 200000 < vars) := by omega
  by_cases h3 : 800000 < cls.length
  · have hI : (800000 : Int) < (cls.length : Int) := by omega
    refine callL_fn (fn := f_cnf_Check) (s := ?s3) rfl rfl (D_cnf_Check_0_ok ?h3) ?r3
    case h3 => simp [D_cnf_Check_0, h1, h2, hI]; rfl
    case r3 => simp [finish, results, f_cnf_Check, resOfs, resOf, resOk, clsE, h12, h3]
  have hI : ¬ (800000 : Int) < (cls.length : Int) := by omega
  have hl := CheckC_loop (gh := gh) (vars := vars) hs (by omega) cls.length 0 (by omega)
  rw [List.drop_zero] at hl
  simp only [Int.natCast_zero] at hl
  generalize hL : (cls.map fun l => LI l) = L at *
  have hLl : L.length = cls.length := by rw [← hL]; simp
  by_cases he : firstE vars cls = 0
  · rw [if_pos he] at hl
    have hk := D_cnf_Check_k1_ok (pg := pg) (gh := gh) (e := .ret) (s := ⟨[(2, I 0)], [], gh⟩) rfl
    refine callL_fn (fn := f_cnf_Check) (s := ?s4) rfl rfl (D_cnf_Check_0_ok ?h4) ?r4
    case h4 => simp [D_cnf_Check_0, h1, h2, hLl, hI, hl, hk, hL]; rfl
    case r4 => simp [finish, results, f_cnf_Check, resOfs, resOf, resOk, clsE, h12, h3, he]
  · rw [if_neg he] at hl
    refine callL_fn (fn := f_cnf_Check) (s := ?s5) rfl rfl (D_cnf_Check_0_ok ?h5) ?r5
    case h5 => simp [D_cnf_Check_0, h1, h2, hLl, hI, hl, hL]; rfl
    case r5 => simp [finish, results, f_cnf_Check, resOfs, resOf, resOk, clsE, h12, h3]
end
end Go.Lw
end

/-! What the functions of package word come to. -/
section
namespace Go.Lw
open Go
def takesOf (k : Int) : Int :=
  if k < 4 then 0 else if k < 6 then 1 else if k < 19 then 2 else if k = 19 then 3 else if k = 20 then 2 else if k < 24 then 1 else 0
def wOk (k i w : Int) : Prop := if i < takesOf k then 1 ≤ w ∧ w ≤ 8 else w = 0
instance (k i w : Int) : Decidable (wOk k i w) := inferInstanceAs (Decidable (if i < takesOf k then 1 ≤ w ∧ w ≤ 8 else w = 0))
end Go.Lw
end

/-! What the document's functions of words come to. -/
section
namespace Go.Lw
open Go
theorem between_eq (n a b : Int) (gh : List GObj) : callL pg 50 [I n, I a, I b] gh = some (B (decide (a ≤ n ∧ n ≤ b)), gh) := by
  by_cases h : a ≤ n
  · refine callL_fn (fn := f_ref_between) (s := ?s1) rfl rfl (D_ref_between_0_ok ?h1) ?r1
    case h1 => simp [D_ref_between_0, h]; rfl
    case r1 => simp [finish, results, f_ref_between, resOfs, resOf, resOk, h]
  · refine callL_fn (fn := f_ref_between) (s := ?s2) rfl rfl (D_ref_between_0_ok ?h2) ?r2
    case h2 => simp [D_ref_between_0, h]; rfl
    case r2 => simp [finish, results, f_ref_between, resOfs, resOf, resOk, h]
end Go.Lw
end

/-! Clauses: what the document makes and checks. -/
section
namespace Go.Lw
open Go
abbrev LLI (cls : List (List Int)) : List PV := cls.map fun l => LI l
section
variable {ins : Int} {ands : List (Int × Int)} {gh : List GObj}
theorem CheckCl_loop {vars : Int} {l : List Int} (hl : l.length ≤ 200) : ∀ k i, i + k = l.length →
    runL pg f_ref_CheckClause_l1 ⟨[(0, I vars), (1, LI l), (5, I (i : Int))], [], gh⟩ =
      if (l.drop i).any (badN vars) = true then some (.ret, ⟨[(4, I 5)], [], gh⟩) else some (.normal, ⟨[], [], gh⟩)
  | 0, i, h => by
    rw [List.drop_eq_nil_of_le (by omega), List.any_nil, if_neg (by simp)]
    have hlt : ¬ i < l.length := by omega
    refine (lp_exit (s1 := ?s1) (D_ref_CheckClause_b1_ok ?h1)).trans ?r1
    case h1 => simp [D_ref_CheckClause_b1, hlt]; rfl
    case r1 => simp [keep]
  | k + 1, i, h => by
    have hlt : i < l.length := by omega
    have e2 : IntKind.i64.wrap ((i : Int) + 1) = ((i + 1 : Nat) : Int) := by rw [wrap_id (by omega) (by omega)]; omega
    have hx : (l.map I)[i]? = some (I l[i]) := by simp [List.getElem?_eq_getElem hlt]
    rw [List.drop_eq_getElem_cons hlt, List.any_cons]
    by_cases h0 : l[i] = 0
    · rw [if_pos (by simp [badN, h0])]
      refine lp_ret (D_ref_CheckClause_b1_ok ?_)
      simp [D_ref_CheckClause_b1, hlt, h0, -List.getElem?_map]
    by_cases h1 : vars < l[i]
    · rw [if_pos (by simp [badN, h1])]
      refine lp_ret (D_ref_CheckClause_b1_ok ?_)
      simp [D_ref_CheckClause_b1, hlt, h0, h1, -List.getElem?_map]
    by_cases h2 : l[i] < IntKind.i64.wrap (-vars)
    · rw [if_pos (by simp [badN, h2])]
      refine lp_ret (D_ref_CheckClause_b1_ok ?_)
      simp [D_ref_CheckClause_b1, hlt, h0, h1, h2, -List.getElem?_map]
    · have e : badN vars l[i] = false := by simp [badN, h0, h1, h2]
      rw [e, Bool.false_or]
      refine lp_next (s1 := ⟨[(0, I vars), (1, LI l), (5, I ((i + 1 : Nat) : Int))], [], gh⟩) (D_ref_CheckClause_b1_ok ?_) (CheckCl_loop hl k (i + 1) (by omega))
      simp [D_ref_CheckClause_b1, hlt, h0, h1, h2, e2, -List.getElem?_map]
theorem CheckCl_eq {vars : Int} {l : List Int} : callL pg 112 [I vars, LI l] gh = some (I (oneE vars l), gh) := by
  by_cases h : 200 < l.length
  · have hI : (200 : Int) < (l.length : Int) := by omega
    refine callL_fn (fn := f_ref_CheckClause) (s := ?s1) rfl rfl (D_ref_CheckClause_0_ok ?h1) ?r1
    case h1 => simp [D_ref_CheckClause_0, hI]; rfl
    case r1 => simp [finish, results, f_ref_CheckClause, resOfs, resOf, resOk, oneE, h]
  · have hI : ¬ (200 : Int) < (l.length : Int) := by omega
    have hl := CheckCl_loop (gh := gh) (vars := vars) (l := l) (by omega) l.length 0 (by omega)
    rw [List.drop_zero] at hl
    simp only [Int.natCast_zero] at hl
    cases hb : l.any (badN vars) with
    | true =>
      rw [if_pos hb] at hl
      refine callL_fn (fn := f_ref_CheckClause) (s := ?s2) rfl rfl (D_ref_CheckClause_0_ok ?h2) ?r2
      case h2 => simp [D_ref_CheckClause_0, hI, hl]; rfl
      case r2 => simp [finish, results, f_ref_CheckClause, resOfs, resOf, resOk, oneE, h, hb]
    | false =>
      rw [if_neg (by rw [hb]; simp)] at hl
      have hk := D_ref_CheckClause_k1_ok (pg := pg) (gh := gh) (e := .ret) (s := ⟨[(4, I 0)], [], gh⟩) rfl
      refine callL_fn (fn := f_ref_CheckClause) (s := ?s3) rfl rfl (D_ref_CheckClause_0_ok ?h3) ?r3
      case h3 => simp [D_ref_CheckClause_0, hI, hl, hk]; rfl
      case r3 => simp [finish, results, f_ref_CheckClause, resOfs, resOf, resOk, oneE, h, hb]
theorem CheckCls_loop {vars : Int} {cls : List (List Int)} (hl : cls.length ≤ 800000) : ∀ k i, i + k = cls.length →
    runL pg f_ref_CheckClauses_l1 ⟨[(1, .ptr false 0 0), (3, I (i : Int))], [[I vars, .sl false 1 (LLI cls)]], gh⟩ =
      if firstE vars (cls.drop i) = 0 then some (.normal, ⟨[], [], gh⟩) else some (.ret, ⟨[(2, I (firstE vars (cls.drop i)))], [], gh⟩)
  | 0, i, h => by
    rw [List.drop_eq_nil_of_le (by omega), firstE, if_pos rfl]
    have hlt : ¬ i < cls.length := by omega
    refine (lp_exit (s1 := ?s1) (D_ref_CheckClauses_b1_ok ?h1)).trans ?r1
    case h1 => simp [D_ref_CheckClauses_b1, hlt]; rfl
    case r1 => simp [keep]
  | k + 1, i, h => by
    have hlt : i < cls.length := by omega
    have e2 : IntKind.i64.wrap ((i : Int) + 1) = ((i + 1 : Nat) : Int) := by rw [wrap_id (by omega) (by omega)]; omega
    have hx : (cls.map fun l => LI l)[i]? = some (LI cls[i]) := by simp [List.getElem?_eq_getElem hlt]
    have h1 := CheckCl_eq (gh := gh) (vars := vars) (l := cls[i])
    rw [List.drop_eq_getElem_cons hlt, firstE]
    by_cases he : oneE vars cls[i] = 0
    · rw [if_pos he]
      rw [he] at h1
      refine lp_next (s1 := ⟨[(1, .ptr false 0 0), (3, I ((i + 1 : Nat) : Int))], [[I vars, .sl false 1 (LLI cls)]], gh⟩) (D_ref_CheckClauses_b1_ok ?h2) (CheckCls_loop hl k (i + 1) (by omega))
      case h2 => simp [D_ref_CheckClauses_b1, hlt, hx, h1, e2, -List.getElem?_map]
    · rw [if_neg he, if_neg he]
      refine lp_ret (D_ref_CheckClauses_b1_ok ?h3)
      case h3 => simp [D_ref_CheckClauses_b1, hlt, hx, h1, he, -List.getElem?_map]
theorem CheckCls_eq {vars : Int} {cls : List (List Int)} : callL pg 93 [clV vars cls] gh = some (I (clsE vars cls), gh) := by
  have hb := between_eq (gh := gh) vars 0 200000
  by_cases h12 : vars < 0 ∨ 200000 < vars
  · have e : (decide (0 ≤ vars ∧ vars ≤ 200000)) = false := by
      rw [Bool.eq_false_iff]; simp; omega
    rw [e] at hb
    refine callL_fn (fn := f_ref_CheckClauses) (s := ?s1) rfl rfl (D_ref_CheckClauses_0_ok ?h1) ?r1
    case h1 => simp [D_ref_CheckClauses_0, hb]; rfl
    case r1 => simp [finish, results, f_ref_CheckClauses, resOfs, resOf, resOk, clsE, h12]
  have e : (decide (0 ≤ vars ∧ vars ≤ 200000)) = true := by simp; omega
  rw [e] at hb
  by_cases h3 : 800000 < cls.length
  · have hI : (800000 : Int) < (cls.length : Int) := by omega
    refine callL_fn (fn := f_ref_CheckClauses) (s := ?s3) rfl rfl (D_ref_CheckClauses_0_ok ?h3) ?r3
    case h3 => simp [D_ref_CheckClauses_0, hb, hI]; rfl
    case r3 => simp [finish, results, f_ref_CheckClauses, resOfs, resOf, resOk, clsE, h12, h3]
  have hI : ¬ (800000 : Int) < (cls.length : Int) := by omega
  have hl := CheckCls_loop (gh := gh) (vars := vars) (cls := cls) (by omega) cls.length 0 (by omega)
  rw [List.drop_zero] at hl
  simp only [Int.natCast_zero, LLI] at hl
  generalize hL : (cls.map fun l => LI l) = L at *
  have hLl : L.length = cls.length := by rw [← hL]; simp
  by_cases he : firstE vars cls = 0
  · rw [if_pos he] at hl
    have hk := D_ref_CheckClauses_k1_ok (pg := pg) (gh := gh) (e := .ret) (s := ⟨[(2, I 0)], [], gh⟩) rfl
    refine callL_fn (fn := f_ref_CheckClauses) (s := ?s4) rfl rfl (D_ref_CheckClauses_0_ok ?h4) ?r4
    case h4 => simp [D_ref_CheckClauses_0, hb, hLl, hI, hl, hk, hL]; rfl
    case r4 => simp [finish, results, f_ref_CheckClauses, resOfs, resOf, resOk, clsE, h12, h3, he]
  · rw [if_neg he] at hl
    refine callL_fn (fn := f_ref_CheckClauses) (s := ?s5) rfl rfl (D_ref_CheckClauses_0_ok ?h5) ?r5
    case h5 => simp [D_ref_CheckClauses_0, hb, hLl, hI, hl, hL]; rfl
    case r5 => simp [finish, results, f_ref_CheckClauses, resOfs, resOf, resOk, clsE, h12, h3]
end
end Go.Lw
end

/-! What the nodes of a graph are: what the program makes. -/
section
namespace Go.Lw
open Go
abbrev LB (v : List Bool) : PV := .sl false 1 (v.map B)
@[simp] theorem noG_ep (e : PV) (o : Nat) : PV.noG (.ep e o) = e.noG := rfl
section
variable {gh : List GObj}
end
end Go.Lw
end

/-! Clauses: what makes them hold. -/
section
namespace Go.Lw
open Go
theorem abs_eq {n : Int} (h : -9223372036854775807 ≤ n ∧ n ≤ 9223372036854775807) (gh : List GObj) : callL pg 116 [I n] gh = some (I n.natAbs, gh) := by
  have e : IntKind.i64.wrap (-n) = -n := wrap_id (by omega) (by omega)
  refine callL_fn (fn := f_cnf_abs) (s := ⟨[(2, I n.natAbs)], [], gh⟩) rfl rfl (D_cnf_abs_0_ok ?h1) ?r1
  case h1 =>
    simp [D_cnf_abs_0, e]
    split <;> omega
  case r1 => simp [finish, results, f_cnf_abs, resOfs, resOf, resOk]
def litN (v : List Bool) (n : Int) : Bool := v.getD (n.natAbs - 1) false == decide (0 < n)
def numIn (n : Int) (k : Nat) : Prop := n ≠ 0 ∧ n.natAbs ≤ k
theorem Hold1_eq {v : List Bool} {n : Int} {gh : List GObj} {b : Nat} (hb : gh[b]? = some (.cells [LB v])) (hn : numIn n v.length) (hs : v.length ≤ 3000000) : callL pg 98 [I n, .ptr true b 0] gh = some (B (litN v n), gh) := by
  obtain ⟨h0, h1⟩ := hn
  have ha := abs_eq (n := n) (by omega) gh
  have hlt : n.natAbs - 1 < v.length := by omega
  have e1 : IntKind.i64.wrap ((n.natAbs : Int) - 1) = ((n.natAbs - 1 : Nat) : Int) := by rw [wrap_id (by omega) (by omega)]; omega
  have e2 : litN v n = (v[n.natAbs - 1] == decide (0 < n)) := by unfold litN; simp [List.getD_eq_getElem?_getD, List.getElem?_eq_getElem hlt]
  rw [e2]
  have hx : (v.map B)[n.natAbs - 1]? = some (B v[n.natAbs - 1]) := by simp [List.getElem?_eq_getElem hlt]
  generalize hk : n.natAbs - 1 = k at *
  refine callL_fn (fn := f_cnf_Hold_1) (s := ?s1) rfl rfl (D_cnf_Hold_1_0_ok ?h2) ?r1
  case h2 => simp [D_cnf_Hold_1_0, hb, ha, e1, hx, -List.getElem?_map]; rfl
  case r1 => simp [finish, results, f_cnf_Hold_1, resOfs, resOf, resOk]
theorem Hold2_eq {v : List Bool} {l : List Int} {gh : List GObj} {b b2 : Nat} (hb : gh[b]? = some (.cells [LB v])) (hb2 : gh[b2]? = some (.cells [.fn 98 [.ptr true b 0]])) (hn : ∀ n ∈ l, numIn n v.length) (hs : v.length ≤ 3000000) (hl : Sz l.length) :
    callL pg 99 [LI l, .ptr true b2 0] gh = some (B (!l.any (litN v)), gh) := by
  have hc : ∀ x ∈ l, callL pg 98 (I x :: [.ptr true b 0]) gh = some (B (litN v x), gh) := fun x hx => Hold1_eq hb (hn x hx) hs
  have := ContainsFunc_eq (caps := [.ptr true b 0]) hc (by simp) hl
  refine callL_fn (fn := f_cnf_Hold_2) (s := ?s1) rfl rfl (D_cnf_Hold_2_0_ok ?h1) ?r1
  case h1 => simp [D_cnf_Hold_2_0, hb2, this]; rfl
  case r1 => simp [finish, results, f_cnf_Hold_2, resOfs, resOf, resOk]
theorem IndexFuncL_loop {xs : List (List Int)} {c : Nat} {caps : List PV} {gh : List GObj} {p : List Int → Bool} (hc : ∀ x ∈ xs, callL pg c (LI x :: caps) gh = some (B (p x), gh)) (hcap : caps.all argOk = true) (hs : Sz xs.length) :
    ∀ k i, i + k = xs.length → runL pg f_slices_IndexFunc_LLint_Lint_l1 ⟨[(0, .sl false 1 (LLI xs)), (1, .fn c caps), (7, I xs.length), (8, I i)], [], gh⟩ =
      match (xs.drop i).findIdx? p with
      | some j => some (.ret, ⟨[(4, I ((i + j : Nat)))], [], gh⟩)
      | none => some (.normal, ⟨[], [], gh⟩)
  | 0, i, h => by
    rw [List.drop_eq_nil_of_le (by omega)]
    refine (lp_exit (s1 := ?s1) (D_slices_IndexFunc_LLint_Lint_b1_ok ?h1)).trans ?r1
    case h1 => simp [D_slices_IndexFunc_LLint_Lint_b1, show i = xs.length by omega]; rfl
    case r1 => simp [keep]
  | k + 1, i, h => by
    have hlt : i < xs.length := by omega
    have hx : (xs.map fun l => LI l)[i]? = some (LI xs[i]) := by simp [List.getElem?_eq_getElem hlt]
    rw [List.drop_eq_getElem_cons hlt, List.findIdx?_cons]
    have hci := hc xs[i] (List.getElem_mem hlt)
    have hltI : (i : Int) < (xs.length : Int) := by omega
    cases hp : p xs[i] with
    | true =>
      refine (lp_ret (s1 := ?s2) (D_slices_IndexFunc_LLint_Lint_b1_ok ?h2)).trans ?r2
      case h2 => simp [D_slices_IndexFunc_LLint_Lint_b1, hltI, hx, allK_ok hcap, hci, hp, -List.getElem?_map]; rfl
      case r2 => simp
    | false =>
      refine lp_next (s1 := ⟨[(0, .sl false 1 (LLI xs)), (1, .fn c caps), (7, I xs.length), (8, I (IntKind.i64.wrap ((i : Int) + 1)))], [], gh⟩) (D_slices_IndexFunc_LLint_Lint_b1_ok ?h3) ?r3
      case h3 => simp [D_slices_IndexFunc_LLint_Lint_b1, hltI, hx, allK_ok hcap, hci, hp, -List.getElem?_map]
      case r3 =>
        rw [wrap_nat (by omega)]
        refine (IndexFuncL_loop hc hcap hs k (i + 1) (by omega)).trans ?_
        cases (xs.drop (i + 1)).findIdx? p <;> simp
        omega
theorem IndexFuncL_eq {xs : List (List Int)} {c : Nat} {caps : List PV} {gh : List GObj} {p : List Int → Bool} (hc : ∀ x ∈ xs, callL pg c (LI x :: caps) gh = some (B (p x), gh)) (hcap : caps.all argOk = true) (hs : Sz xs.length) :
    callL pg 117 [.sl false 1 (LLI xs), .fn c caps] gh = some (I (match xs.findIdx? p with | some j => (j : Int) | none => -1), gh) := by
  have hl := IndexFuncL_loop hc hcap hs xs.length 0 (by omega)
  simp only [List.drop_zero, Nat.zero_add, Int.natCast_zero] at hl
  have hLl : (LLI xs).length = xs.length := by simp [LLI]
  generalize LLI xs = L at *
  cases hf : xs.findIdx? p with
  | some j =>
    rw [hf] at hl
    refine callL_fn (fn := f_slices_IndexFunc_LLint_Lint) (s := ?s4) rfl rfl (D_slices_IndexFunc_LLint_Lint_0_ok ?h4) ?r4
    case h4 => simp [D_slices_IndexFunc_LLint_Lint_0, hLl, hl]; rfl
    case r4 => simp [finish, results, f_slices_IndexFunc_LLint_Lint, resOfs, resOf, resOk]
  | none =>
    rw [hf] at hl
    refine callL_fn (fn := f_slices_IndexFunc_LLint_Lint) (s := ?s5) rfl rfl (D_slices_IndexFunc_LLint_Lint_0_ok ?h5) ?r5
    case h5 => simp [D_slices_IndexFunc_LLint_Lint_0, hLl, hl, D_slices_IndexFunc_LLint_Lint_k1_ok (s := ⟨[(4, I (-1))], [], gh⟩) (e := .ret) rfl]; rfl
    case r5 => simp [finish, results, f_slices_IndexFunc_LLint_Lint, resOfs, resOf, resOk]
theorem ContainsFuncL_eq {xs : List (List Int)} {c : Nat} {caps : List PV} {gh : List GObj} {p : List Int → Bool} (hc : ∀ x ∈ xs, callL pg c (LI x :: caps) gh = some (B (p x), gh)) (hcap : caps.all argOk = true) (hs : Sz xs.length) :
    callL pg 100 [.sl false 1 (LLI xs), .fn c caps] gh = some (B (xs.any p), gh) := by
  have h := IndexFuncL_eq hc hcap hs
  have : (decide (0 ≤ (match xs.findIdx? p with | some j => (j : Int) | none => -1))) = xs.any p := by
    cases hf : xs.findIdx? p with
    | some j =>
      have := List.findIdx?_eq_some_iff_getElem.1 hf
      obtain ⟨hj, hpj, _⟩ := this
      simp only [Int.natCast_nonneg, decide_true]
      exact (List.any_eq_true.2 ⟨_, List.getElem_mem hj, hpj⟩).symm
    | none =>
      have := List.findIdx?_eq_none_iff.1 hf
      simp only [show decide ((0 : Int) ≤ -1) = false by decide]
      exact (List.any_eq_false.2 fun x hx => by simp [this x hx]).symm
  generalize LLI xs = L at *
  refine callL_fn (fn := f_slices_ContainsFunc_LLint_Lint) (s := ?s6) rfl rfl (D_slices_ContainsFunc_LLint_Lint_0_ok ?h6) ?r6
  case h6 => simp [D_slices_ContainsFunc_LLint_Lint_0, h]; rfl
  case r6 => simp [finish, results, f_slices_ContainsFunc_LLint_Lint, resOfs, resOf, resOk, this]
def holdB (v : List Bool) (cls : List (List Int)) : Bool := cls.all fun l => l.any (litN v)
theorem Hold_eq {vars : Int} {v : List Bool} {cls : List (List Int)} {gh : List GObj} (hn : ∀ l ∈ cls, ∀ n ∈ l, numIn n v.length) (hs : v.length ≤ 3000000) (hl : SL cls) (hz : Sz cls.length) :
    callL pg 70 [clV vars cls, LB v] gh = some (B (holdB v cls), gh) := by
  have hg : ∀ x : GObj, (gh ++ [.cells [LB v], x])[gh.length]? = some (.cells [LB v]) := fun x => by simp
  have hc : ∀ x ∈ cls, callL pg 99 (LI x :: [.ptr true (gh.length + 1) 0]) (gh ++ [.cells [LB v], .cells [.fn 98 [.ptr true gh.length 0]]]) = some (B (!x.any (litN v)), gh ++ [.cells [LB v], .cells [.fn 98 [.ptr true gh.length 0]]]) :=
    fun x hx => Hold2_eq (b := gh.length) (by simp) (by simp) (hn x hx) hs (hl x hx)
  have h := ContainsFuncL_eq hc (by simp) hz
  have e : (!cls.any fun l => !l.any (litN v)) = holdB v cls := by
    unfold holdB
    rw [List.not_any_eq_all_not]; simp
  unfold clV
  unfold LLI at h
  generalize (cls.map fun l => LI l) = L at *
  refine callL_fn (fn := f_cnf_Hold) (s := ⟨[(4, B (holdB v cls))], [], gh ++ [.cells [LB v], .cells [.fn 98 [.ptr true gh.length 0]]]⟩) rfl rfl (D_cnf_Hold_0_ok ?h1) ?r1
  case h1 =>
    rw [← e]
    simp [D_cnf_Hold_0, spliceAt, h]
  case r1 => simp [finish, results, f_cnf_Hold, resOfs, resOf, resOk]
theorem firstE_zero {vars : Int} : ∀ {cls : List (List Int)}, firstE vars cls = 0 → ∀ l ∈ cls, oneE vars l = 0
  | l :: r, h, x, hx => by
    rw [firstE] at h
    split at h
    · rename_i h0
      rcases List.mem_cons.1 hx with rfl | hx
      · exact h0
      · exact firstE_zero h x hx
    · rename_i h0; exact absurd h h0
theorem clsE_zero {vars : Int} {cls : List (List Int)} (h : clsE vars cls = 0) : (0 ≤ vars ∧ vars ≤ 200000) ∧ cls.length ≤ 800000 ∧ ∀ l ∈ cls, l.length ≤ 200 ∧ ∀ n ∈ l, n ≠ 0 ∧ -vars ≤ n ∧ n ≤ vars := by
  unfold clsE at h
  split at h
  · cases h
  · rename_i h1
    split at h
    · cases h
    · rename_i h2
      refine ⟨by omega, by omega, fun l hl => ?_⟩
      have := firstE_zero h l hl
      unfold oneE at this
      split at this
      · cases this
      · rename_i h3
        split at this
        · cases this
        · rename_i h4
          refine ⟨by omega, fun n hn => ?_⟩
          have hb : badN vars n = false := by
            rw [Bool.eq_false_iff]
            intro hb
            exact h4 (List.any_eq_true.2 ⟨n, hn, hb⟩)
          unfold badN at hb
          rw [wrap_id (by omega) (by omega), decide_eq_false_iff_not] at hb
          omega
end Go.Lw
end

/-! Follows and Check of package proof, and the document's. -/
section
namespace Go.Lw
open Go
section
variable {gh : List GObj}
theorem GrowP {n : Nat} (h : n * 24 ≤ maxBytes) : callL pg 160 [.nils, I n] gh = some (.sl true 1 [], gh) := by
  have : callL pg 160 [.nils, I n] gh = libGrow 1 24 [.nils, I n] gh := rfl
  rw [this, libGrow, if_pos ⟨by omega, by simpa using h⟩]
theorem ConcatP {X Y : List PV} (hX : noGs X = true) (hY : noGs Y = true) (h : (X.length + Y.length) * 24 ≤ maxBytes) : callL pg 156 [.sl false 1 [.sl false 1 X, .sl false 1 Y]] gh = some (.sl false 1 (X ++ Y), gh) := by
  have hm : maxBytes = 140737488355328 := rfl
  have w1 : IntKind.i64.wrap (X.length : Int) = X.length := wrap_id (by omega) (by omega)
  have w2 : IntKind.i64.wrap ((X.length : Int) + (Y.length : Int)) = ((X.length + Y.length : Nat) : Int) := by rw [wrap_id (by omega) (by omega)]; omega
  have w3 : IntKind.i64.wrap (0 + 1) = 1 := by decide
  have w5 : IntKind.i64.wrap 2 = 2 := by decide
  have n1 : ¬ ((X.length : Int) < 0) := by omega
  have hl1 : runL pg f_slices_Concat_LLint_Lint_l1 ⟨[(0, .sl false 1 [.sl false 1 X, .sl false 1 Y]), (3, I 0), (9, .sl false 1 [.sl false 1 X, .sl false 1 Y]), (10, I 2), (11, I 0)], [], gh⟩ =
      some (.normal, ⟨[(0, .sl false 1 [.sl false 1 X, .sl false 1 Y]), (3, I ((X.length + Y.length : Nat) : Int))], [], gh⟩) := by
    refine lp_next (s1 := ⟨[(0, .sl false 1 [.sl false 1 X, .sl false 1 Y]), (3, I X.length), (9, .sl false 1 [.sl false 1 X, .sl false 1 Y]), (10, I 2), (11, I 1)], [], gh⟩) (D_slices_Concat_LLint_Lint_b1_ok ?_) ?_
    · simp [D_slices_Concat_LLint_Lint_b1, w1, n1]; exact w3
    refine lp_next (s1 := ⟨[(0, .sl false 1 [.sl false 1 X, .sl false 1 Y]), (3, I ((X.length + Y.length : Nat) : Int)), (9, .sl false 1 [.sl false 1 X, .sl false 1 Y]), (10, I 2), (11, I 2)], [], gh⟩) (D_slices_Concat_LLint_Lint_b1_ok ?_) ?_
    · simp only [D_slices_Concat_LLint_Lint_b1]
      have n2' : decide ((X.length : Int) + (Y.length : Int) < 0) = false := decide_eq_false (by omega)
      simp [w2, n2']
      exact w5
    refine (lp_exit (s1 := ?s1) (D_slices_Concat_LLint_Lint_b1_ok ?h1)).trans ?r1
    case h1 => simp [D_slices_Concat_LLint_Lint_b1]; rfl
    case r1 => simp [keep, stays]
  have hl2 : runL pg f_slices_Concat_LLint_Lint_l2 ⟨[(6, .sl true 1 []), (25, .sl false 1 [.sl false 1 X, .sl false 1 Y]), (26, I 2), (27, I 0)], [], gh⟩ = some (.normal, ⟨[(6, .sl true 1 (X ++ Y))], [], gh⟩) := by
    refine lp_next (s1 := ⟨[(6, .sl true 1 X), (25, .sl false 1 [.sl false 1 X, .sl false 1 Y]), (26, I 2), (27, I 1)], [], gh⟩) (D_slices_Concat_LLint_Lint_b2_ok ?_) ?_
    · have : X.length * 24 ≤ maxBytes := by omega
      simp [D_slices_Concat_LLint_Lint_b2, this]; exact w3
    refine lp_next (s1 := ⟨[(6, .sl true 1 (X ++ Y)), (25, .sl false 1 [.sl false 1 X, .sl false 1 Y]), (26, I 2), (27, I 2)], [], gh⟩) (D_slices_Concat_LLint_Lint_b2_ok ?_) ?_
    · simp [D_slices_Concat_LLint_Lint_b2, h]; exact w5
    refine (lp_exit (s1 := ?s2) (D_slices_Concat_LLint_Lint_b2_ok ?h2)).trans ?r2
    case h2 => simp [D_slices_Concat_LLint_Lint_b2]; rfl
    case r2 => simp [keep, stays]
  have hg := GrowP (gh := gh) h
  have k2 := D_slices_Concat_LLint_Lint_k2_ok (pg := pg) (gh := gh) (v6 := .sl true 1 (X ++ Y)) (e := .ret) (s := ⟨[(2, .sl false 1 (X ++ Y))], [], gh⟩) (by simp [D_slices_Concat_LLint_Lint_k2])
  have k1 := D_slices_Concat_LLint_Lint_k1_ok (pg := pg) (gh := gh) (v0 := .sl false 1 [.sl false 1 X, .sl false 1 Y]) (x3 := ((X.length + Y.length : Nat) : Int)) (e := .ret) (s := ⟨[(2, .sl false 1 (X ++ Y))], [], gh⟩) (by
    generalize X.length + Y.length = n at *
    simp [D_slices_Concat_LLint_Lint_k1, hg, hl2, k2])
  have hn : noGs (X ++ Y) = true := by
    have : ∀ (A B : List PV), noGs A = true → noGs B = true → noGs (A ++ B) = true := by
      intro A B
      induction A with
      | nil => intro _ h; exact h
      | cons a A ih =>
        intro h1 h2
        simp only [noGs_cons, Bool.and_eq_true] at h1
        simp [h1.1, ih h1.2 h2]
    exact this X Y hX hY
  refine callL_fn (fn := f_slices_Concat_LLint_Lint) (s := ⟨[(2, .sl false 1 (X ++ Y))], [], gh⟩) rfl rfl (D_slices_Concat_LLint_Lint_0_ok ?h1) ?r1
  case h1 =>
    generalize X.length + Y.length = n at *
    simp [D_slices_Concat_LLint_Lint_0, hl1, k1]
  case r1 => simp [finish, results, f_slices_Concat_LLint_Lint, resOk, hn, get]
theorem cls_ok {vars : Int} {cls : List (List Int)} (h : clsE vars cls = 0) : OkL cls := by
  obtain ⟨h1, h2, h3⟩ := clsE_zero h
  refine ⟨by omega, fun l hl => ⟨(h3 l hl).1, fun n hn => ?_⟩⟩
  have := (h3 l hl).2 n hn
  exact ⟨this.1, by omega, by omega⟩
abbrev negs (l : List Int) : List Int := l.map fun n => -n
open Classical in
end
end Go.Lw
end
