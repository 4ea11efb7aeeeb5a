/-
  The texts that the proof stands on, part 13.
-/
import Derived.Test.YtmodipglnngghacGreatDoorTraceParsesL
import Derived.Tactics
import Derived.KernelRfl
set_option linter.unusedVariables false
set_option linter.unusedSimpArgs false
set_option linter.unnecessarySimpa false

/-! Every operation of the machine, calls too, does what its Go operation does. -/
section
namespace Go.Lw
open Go Go.RowKit
section
variable {fi : FI} {M M' : Mem} {w w' : World} {P : Program} {s s' : St} {a : Act} {cf : CallF}
def CallOk (P : Program) (fi : FI) (F : Nat) (vs : List PV) (gh : List GObj) (r : PV) (gh' : List GObj) : Prop :=
  ∀ (M : Mem) (w : World) (args : List Value), GI fi M w gh → M.lb = [] → (∀ b l, M.own b = some l → ∃ i j, l = .gh i j) → args.length = vs.length →
    (∀ (i : Nat) (p : PV) (v : Value), vs[i]? = some p → args[i]? = some v → RepP fi M w p v) →
    Calls P F args.toArray w fun e w' => ∃ v M', e = .returned v ∧ GI fi M' w' gh' ∧ M'.lb = [] ∧ resOk r = true ∧ RepAt fi M' w' Loc.res r v ∧ Kp M w M' w'
def CfOk (P : Program) (fi : FI) (cf : CallF) : Prop :=
  ∀ f vs gh r gh' F, cf f vs gh = some (r, gh') → (∀ p ∈ vs, argOk p = true) → fi f = some F →
    (∃ fn c, P.funcs[F]? = some fn ∧ (fn.name == "runtime.NumGoroutine") = false ∧ fn.body = some c) ∧ CallOk P fi F vs gh r gh'
def mOpC (P : Program) (fi : FI) (i : IOp) (op : Op) : Bool :=
  match i, op with
  | .call _ _ f xs, .call { callee := .value (.func F), args, .. } | .callP _ f xs _, .call { callee := .value (.func F), args, .. } | .callR _ f xs _ _, .call { callee := .value (.func F), args, .. } | .callF _ f xs, .call { callee := .value (.func F), args, .. } => fi f == some F && mXs fi xs args.toList
  | .callv _ _ fv xs, .call { callee := .value y, args, .. } | .callE _ fv xs, .call { callee := .value y, args, .. } => mX fi fv y && mXs fi xs args.toList
  | .loadN d agg k x _, op => mOp P fi (.load d agg k x) op
  | .loadL d x, op => mOp P fi (.loadT d x) op
  | .appendE d bytes y x, op => mOp P fi (.append d 1 bytes y x) op
  | .loadKB d x _, op => mOp P fi (.load d false 1 x) op
  | .loadTB d x _ _, op => mOp P fi (.loadT d x) op
  | .loadB d agg k x _, op => mOp P fi (.load d agg k x) op
  | .loadJ d agg k x, op => mOp P fi (.load d agg k x) op
  | .appendP d bytes y x _, op => mOp P fi (.append d 1 bytes y x) op
  | .mkarr d z bytes zero l, op => mOp P fi (.mksl d true z bytes zero l) op
  | .buildA d z ps, op => mOp P fi (.buildT d z ps) op
  | .appendK d bytes y x, op => mOp P fi (.append d 1 bytes y x) op
  | .appendN d bytes y x, op => mOp P fi (.append d 1 bytes y x) op
  | .buildSlK d els, op => mOp P fi (.buildSl d 1 els) op
  | .loadK d x, op => mOp P fi (.load d false 1 x) op
  | .loadH d x, op => mOp P fi (.load d false 1 x) op
  | .storeK y x, op => mOp P fi (.store false 1 y x) op
  | i, op => mOp P fi i op
theorem enter_run {F : Nat} {fn : Func} {c : Code} (hf : P.funcs[F]? = some fn) (hn : (fn.name == "runtime.NumGoroutine") = false) (hb : fn.body = some c) (args : Array Value) (w : World) :
    (callFunc F args).run P w = .ok (.enter F args) w := by
  have h1 : fn.name ≠ "runtime.NumGoroutine" := by simpa using hn
  simp [callFunc, hf, h1, hb]
theorem RepE.fnInv {f : Nat} {cs : List PV} {v : Value} (h : RepE fi M w (.fn f cs) v) : ∃ F vs, fi f = some F ∧ v = .func (.func F) #[] (vs : List Value).toArray ∧ vs.length = cs.length ∧ cs.all argOk = true ∧
    ∀ (i : Nat) (c : PV) (u : Value), cs[i]? = some c → vs[i]? = some u → RepP fi M w c u := by
  cases (show RepP fi M w (.fn f cs) v from h) with
  | fn _ F _ vs hf hl h1 h2 => exact ⟨F, vs, hf, rfl, hl, h1, h2⟩
theorem RepE.bfnInv {f : Nat} {cs : List PV} {v : Value} (h : RepE fi M w (.bfn f cs) v) : ∃ F vs, fi f = some F ∧ v = .func (.func F) (vs : List Value).toArray #[] ∧ vs.length = cs.length ∧ cs.all argOk = true ∧
    ∀ (i : Nat) (c : PV) (u : Value), cs[i]? = some c → vs[i]? = some u → RepP fi M w c u := by
  cases (show RepP fi M w (.bfn f cs) v from h) with
  | bfn _ F _ vs hf hl h1 h2 => exact ⟨F, vs, hf, rfl, hl, h1, h2⟩
theorem callee_rep {g : Bool} {p : PV} {v : Value} (h : RepP fi M w p v) (hg : g = false → p.noG = true) : RepP fi (M.callee g) w p v := by
  cases hgb : g with
  | true => subst hgb; exact h.mono (show Ext M w (M.callee true) w from ⟨fun _ _ h => h, fun _ _ h => h, fun _ _ _ => rfl, fun _ _ => ⟨Nat.le_refl _, fun _ => rfl⟩⟩)
  | false =>
    subst hgb
    exact (h.noG [] M.st (hg rfl)).mono (show Ext { M with gb := [], st := M.st } w (M.callee false) w from ⟨fun _ _ h => h, fun _ _ h => h, fun _ _ _ => rfl, fun _ _ => ⟨Nat.le_refl _, fun _ => rfl⟩⟩)
def dstL : Option Nat → Nat → Loc
  | some d => Loc.env d
  | none => Loc.lim
theorem call_wp (hI : Inv fi M w s a) {o : Oper} {F : Nat} {args : List Value} {vs : List PV} {g : Bool} {r : PV} {gh' : List GObj} (hrun : (execOp a.eval o).run P w = .ok (.enter F args.toArray) w)
    (hok : CallOk P fi F vs (if g then s.gh else []) r gh') (hl : args.length = vs.length) (hr : ∀ (i : Nat) (p : PV) (v : Value), vs[i]? = some p → args[i]? = some v → RepP fi M w p v) (hg : g = false → noGs vs = true ∧ r.noG = true)
    (hlt : ∀ d, o.dst = some d → d < a.tmps.size) {next : Act → World → Prop} {Q : Exit → Act → World → Prop}
    (hn : ∀ a' M' w', Inv fi M' w' ⟨putO s.env o.dst r, s.lh, if g then gh' else s.gh⟩ a' → Kp M w M' w' → a'.tmps.size = a.tmps.size → next a' w') : o.wp P a w next Q := by
  unfold Oper.wp
  rw [hrun, Oper.upon_enter]
  obtain ⟨c1, c2, c3⟩ := hI.callee g
  refine Calls.mono (hok (M.callee g) w args c1 c2 c3 hl (fun i p v hp hv => callee_rep (hr i p v hp hv) (fun e => noGs_get (hg e).1 hp))) ?_
  rintro e w2 ⟨v, M2, rfl, hG, hlb, hrok, hrep, hk⟩
  obtain ⟨b1, b2, b3⟩ := hI.back g (dstL o.dst) (fun i => by cases o.dst <;> rfl) hG hlb hk hrep (fun e => (hg e).2) hrok
  simp only
  cases hd : o.dst with
  | none =>
    rw [hd] at b1 b2 b3 hn
    exact hn _ _ _ b1 b2 rfl
  | some d =>
    rw [hd] at b1 b2 b3 hn
    exact hn _ _ _ (b1.put (hlt d hd) b3) b2 (by simp [Act.put])
theorem Sim.wp {o : Oper} (h : Sim P fi o M w s' a) {next : Act → World → Prop} {Q : Exit → Act → World → Prop}
    (hn : ∀ a' M' w', Inv fi M' w' s' a' → Kp M w M' w' → a'.tmps.size = a.tmps.size → next a' w') : o.wp P a w next Q := by
  obtain ⟨n, v, M', w', h1, h2, h3, h4⟩ := h
  unfold Oper.wp
  rw [h1]
  have hs : (a.put o.dst v).tmps.size = a.tmps.size := by cases o.dst <;> simp [Act.put]
  rcases h2 with rfl | ⟨rfl, rfl⟩
  · exact hn _ _ _ h3 h4 hs
  · exact hn _ _ _ h3 h4 hs
theorem sim_load' {o : Oper} {d : Nat} {agg : Bool} {k : Nat} {x : IX} (A : Asks P fi M w s a o (.load d agg k x)) (h : opStep cf s (.load d agg k x) = some s') : Sim P fi o M w s' a := sim_load A h
theorem Inv.still (hI : Inv fi M w s a) (hsz : w.heap.size ≤ w'.heap.size) (hb : ∀ k, k < w.heap.size → w'.heap[k]? = w.heap[k]?) (h1 : w'.os = w.os) (h2 : w'.tape = w.tape) (h3 : w'.output = w.output) : Inv fi M w' s a ∧ Kp M w M w' := by
  have hext : Ext M w M w' := ⟨fun _ _ h => h, fun _ _ h => h, fun b k h => World.cell?_of_block (w := w) (hb b (hI.immlt b k h)), fun _ _ => ⟨Nat.le_refl _, fun _ => rfl⟩⟩
  have G : Good M w M w' (fun _ => False) (fun _ => False) :=
    ⟨hext, hsz, fun _ _ h => h, fun b l h _ => ⟨h, hb b (hI.ownlt b l h), fun _ h => h, fun h => h, fun h => h⟩, fun b hlt _ h => ⟨hb b hlt, fun _ h => h, h⟩, fun _ _ => rfl⟩
  exact ⟨⟨fun t u hu => ⟨(hI.env t u hu).1, (hI.env t u hu).2.good G (fun i h => h)⟩, hI.defers, hI.lbl, hI.gbl, hI.nodup, fun i cs blk g1 g2 => (hI.lh i cs blk g1 g2).good G (fun h => h) (fun i h => h),
    fun i o blk g1 g2 => (hI.gh i o blk g1 g2).good G (fun h => h) (fun j h => h), hext.gl hI.gl, fun b k h => Nat.lt_of_lt_of_le (hI.immlt b k h) hsz, fun b l h => Nat.lt_of_lt_of_le (hI.ownlt b l h) hsz, fun b h => Nat.lt_of_lt_of_le (hI.gblt b h) hsz⟩,
    ⟨h1, h2, h3, hsz, hext, fun k hlt _ _ _ => hb k hlt, fun _ h => .inl h, fun _ h => .inl h, fun _ _ h => h, fun _ _ h => .inl h⟩⟩
def Mem.reads (M : Mem) : Mem := { lb := [], gb := [], imm := fun b k => M.imm b k ∨ b ∈ M.gb, own := fun _ => none, st := M.st }
theorem Inv.reads (hI : Inv fi M w s a) : GI fi M.reads w [] :=
  ⟨fun t v h => by simp [get] at h, rfl, rfl, rfl, by simp [Mem.reads], fun i cs blk h => by simp at h, fun i o blk h1 h2 => by simp at h1,
    fun x hx => ⟨.inl (hI.gl x hx).1, (hI.gl x hx).2⟩, fun b k h => h.elim (hI.immlt b k) (hI.gblt b), fun b l h => by simp [Mem.reads] at h, fun b hb => by simp [Mem.reads] at hb⟩
theorem reads_rep {p : PV} {v : Value} (h : RepP fi M w p v) (hg : p.noG = true) : RepP fi M.reads w p v :=
  (h.noG [] M.st hg).mono (show Ext { M with gb := [], st := M.st } w M.reads w from ⟨fun _ _ h => h, fun _ _ h => .inl h, fun _ _ _ => rfl, fun _ _ => ⟨Nat.le_refl _, fun _ => rfl⟩⟩)
theorem elP_rep (hI : Inv fi M w s a) {p u : PV} {v : Value} (h : RepP fi M w p v) (he : elP s.gh p = some u) (hg : u.noG = true) : RepP fi M.reads w u v := by
  unfold elP at he
  split at he
  · rename_i b off
    split at he
    · rename_i cs hc
      split at he
      · rename_i hok
        cases he
        cases h with
        | ptr _ _ blk hb =>
          obtain ⟨b1, b2, b3, b4, vs, T, b5, b6, b7⟩ : RepBox fi M w (Loc.gh b) blk cs := hI.gh b _ blk hc hb
          have hng : noGs (cs.map degr1) = true := by simpa [PV.noG] using hg
          have hcell : ∀ j, j < vs.length → w.cell? ⟨blk, 0 + j, none⟩ = some (vs.getD j undef) := by
            intro j hj
            simp [World.cell?, b5, hj]
          have := RepP.ep (fi := fi) (M := M.reads) (w := w) (.agg (cs.map degr1)) off blk 0 (fun j => vs.getD j undef) hok
            (fun j p hp => by
              have hp' : (cs.map degr1)[j]? = some p := hp
              have hj : j < vs.length := by
                have := (List.getElem?_eq_some_iff.1 hp').1
                simp at this; omega
              exact ⟨.inr (List.mem_of_getElem? hb), hcell j hj⟩)
            (fun j p hp => by
              have hp' : (cs.map degr1)[j]? = some p := hp
              have hj : j < cs.length := by
                have := (List.getElem?_eq_some_iff.1 hp').1
                simpa using this
              have e1 : p = degr1 cs[j] := by
                rw [List.getElem?_map, List.getElem?_eq_getElem hj] at hp'
                simpa using hp'.symm
              have e2 : vs.getD j undef = vs[j] := by simp [List.getD, List.getElem?_eq_getElem (show j < vs.length by omega)]
              have hr := (b7 j cs[j] vs[j] (List.getElem?_eq_getElem hj) (List.getElem?_eq_getElem (by omega))).degr1
              rw [e1, e2]
              exact reads_rep hr (by rw [← e1]; exact noGs_get hng hp'))
          rw [Nat.zero_add] at this
          exact this
      · cases he
    · cases he
  · cases he
    exact reads_rep h hg
theorem elPs_get {gh : List GObj} : ∀ {vs us : List PV}, elPs gh vs = some us → us.length = vs.length ∧ ∀ (i : Nat) (u : PV), us[i]? = some u → ∃ v, vs[i]? = some v ∧ elP gh v = some u
  | [], us, h => by
    simp [elPs] at h; subst h
    exact ⟨rfl, fun i u h => by simp at h⟩
  | v :: l, us, h => by
    simp only [elPs, Option.bind_eq_some_iff, Option.map_eq_some_iff] at h
    obtain ⟨u, h1, us', h2, rfl⟩ := h
    obtain ⟨h3, h4⟩ := elPs_get h2
    refine ⟨by simp [h3], fun i x hx => ?_⟩
    cases i with
    | zero => simp at hx; subst hx; exact ⟨v, rfl, h1⟩
    | succ i => simpa using h4 i x (by simpa using hx)
theorem el_wp (hI : Inv fi M w s a) {o : Oper} {F : Nat} {args : List Value} {vs us : List PV} {r : PV} (hrun : (execOp a.eval o).run P w = .ok (.enter F args.toArray) w)
    (hok : CallOk P fi F us [] r []) (hl : args.length = vs.length) (hr : ∀ (i : Nat) (p : PV) (v : Value), vs[i]? = some p → args[i]? = some v → RepP fi M w p v) (hu : elPs s.gh vs = some us) (hng : noGs us = true) (hf : isFlat r = true)
    (hlt : ∀ d, o.dst = some d → d < a.tmps.size) {next : Act → World → Prop} {Q : Exit → Act → World → Prop}
    (hn : ∀ a' M' w', Inv fi M' w' ⟨putO s.env o.dst r, s.lh, s.gh⟩ a' → Kp M w M' w' → a'.tmps.size = a.tmps.size → next a' w') : o.wp P a w next Q := by
  unfold Oper.wp
  rw [hrun, Oper.upon_enter]
  obtain ⟨hul, hug⟩ := elPs_get hu
  refine Calls.mono (hok M.reads w args hI.reads rfl (fun b l h => by simp [Mem.reads] at h) (by omega) (fun i u v hp hv => ?_)) ?_
  · obtain ⟨p, h1, h2⟩ := hug i u hp
    exact elP_rep hI (hr i p v h1 hv) h2 (noGs_get hng hp)
  rintro e w2 ⟨v, M2, rfl, hG, hlb, hrok, hrep, hk⟩
  obtain ⟨b1, b2⟩ := hI.still hk.size (fun k hk' => hk.block k hk' (by simp [Mem.reads]) (by simp [Mem.reads]) rfl) hk.os hk.tape hk.output
  have b3 : ∀ d, RepAt fi M w2 (Loc.env d) r v := by
    intro d
    cases r <;> simp [isFlat] at hf
    · cases (show RepP fi M2 w2 (.int _ _) v from hrep); exact RepP.repE (.int _ _)
    · cases (show RepP fi M2 w2 (.bool _) v from hrep); exact RepP.repE (.bool _)
  simp only
  cases hd : o.dst with
  | none =>
    rw [hd] at hn
    exact hn _ _ _ b1 b2 rfl
  | some d =>
    rw [hd] at hn
    exact hn _ _ _ (b1.put (hlt d hd) (b3 d)) b2 (by simp [Act.put])
theorem plain_wp (hcf : CfOk P fi cf) (hI : Inv fi M w s a) {o : Oper} {d : Option Nat} {f F : Nat} {xs : List IX} {args : Array Operand} {ats : Array TypeId} (ho : o.op = .call ⟨.value (.func F), args, ats⟩) (hf : fi f = some F) (hxs : mXs fi xs args.toList = true)
    (hd : o.dst = d) (hlt' : ∀ d, o.dst = some d → d < a.tmps.size) {vs : List PV} (hvs : evalXs s.env xs = some vs) (h : doCall cf s d false f vs = some s')
    {next : Act → World → Prop} {Q : Exit → Act → World → Prop} (hn : ∀ a' M' w', Inv fi M' w' s' a' → Kp M w M' w' → a'.tmps.size = a.tmps.size → next a' w') : o.wp P a w next Q := by
  obtain ⟨dst, op, ty, pos, aft, gd⟩ := o
  simp only at ho
  subst ho
  unfold doCall at h
  split at h
  · rename_i hall
    simp only [List.all_eq_true] at hall
    obtain ⟨e1, e2⟩ := evalXs_sim hI hxs hvs
    cases hc : cf f vs s.gh with
    | none => simp [hc] at h
    | some rg =>
      obtain ⟨r, gh'⟩ := rg
      simp only [hc] at h
      obtain ⟨⟨fn, cd, hfn, hnm, hbd⟩, hok⟩ := hcf f vs s.gh r gh' F hc hall hf
      have hs' : s' = ⟨putO s.env d r, s.lh, gh'⟩ := by
        simp at h; exact h.symm
      subst hs'
      refine call_wp (g := true) (args := args.toList.map a.eval) (vs := vs) (F := F) (r := r) (gh' := gh') hI ?_ hok (by simpa using e1) (fun i p v hp hv => ?_) (by simp) hlt' ?_
      · have hcap : args.map a.eval = (List.map a.eval args.toList).toArray := by apply Array.ext'; simp
        have hev : a.eval (.func F) = .func (.func F) #[] #[] := rfl
        simp [execOp, resolve, Deferred.ofValue, invoke, hev, hcap, enter_run hfn hnm hbd]
      · simp only [List.getElem?_map, Option.map_eq_some_iff] at hv
        obtain ⟨y, hy, rfl⟩ := hv
        refine (e2 i p y hp hy).repP ?_
        exact hall p (List.mem_of_getElem? hp)
      · rw [show dst = d from hd]; exact hn
  · cases h
set_option maxHeartbeats 1600000 in
theorem op_wp (hcf : CfOk P fi cf) (hI : Inv fi M w s a) {o : Oper} {i : IOp} (hm : mOpC P fi i o.op = true) (hd : o.dst = opDst i) (hlt : ∀ d, opDst i = some d → d < a.tmps.size) (h : opStep cf s i = some s')
    {next : Act → World → Prop} {Q : Exit → Act → World → Prop} (hn : ∀ a' M' w', Inv fi M' w' s' a' → Kp M w M' w' → a'.tmps.size = a.tmps.size → next a' w') : o.wp P a w next Q := by
  have hlt' : ∀ d, o.dst = some d → d < a.tmps.size := fun d h => hlt d (by rw [← hd]; exact h)
  cases i with
  | call d q f xs =>
    obtain ⟨dst, op, ty, pos, aft, gd⟩ := o
    cases op <;> simp [mOpC, mOp] at hm
    rename_i c
    obtain ⟨callee, args, ats⟩ := c
    cases callee with
    | value y =>
      cases y <;> simp at hm
      rename_i F
      obtain ⟨hf, hxs⟩ := hm
      simp only [opStep, Option.bind_eq_some_iff] at h
      obtain ⟨vs, hvs, h⟩ := h
      unfold doCall at h
      split at h
      · rename_i hall
        simp only [List.all_eq_true] at hall
        obtain ⟨e1, e2⟩ := evalXs_sim hI hxs hvs
        cases hc : cf f vs s.gh with
        | none => simp [hc] at h
        | some rg =>
          obtain ⟨r, gh'⟩ := rg
          simp only [hc] at h
          obtain ⟨⟨fn, cd, hfn, hnm, hbd⟩, hok⟩ := hcf f vs s.gh r gh' F hc hall hf
          have hs' : s' = ⟨putO s.env d r, s.lh, gh'⟩ := by
            split at h
            · split at h
              · rename_i he; cases h; rw [he]
              · cases h
            · cases h; rfl
          subst hs'
          refine call_wp (g := true) (args := args.toList.map a.eval) (vs := vs) (F := F) (r := r) (gh' := gh') hI ?_ hok (by simpa using e1) (fun i p v hp hv => ?_) (by simp) hlt' ?_
          · have hcap : args.map a.eval = (List.map a.eval args.toList).toArray := by apply Array.ext'; simp
            have hev : a.eval (.func F) = .func (.func F) #[] #[] := rfl
            simp [execOp, resolve, Deferred.ofValue, invoke, hev, hcap, enter_run hfn hnm hbd]
          · simp only [List.getElem?_map, Option.map_eq_some_iff] at hv
            obtain ⟨y, hy, rfl⟩ := hv
            refine (e2 i p y hp hy).repP ?_
            exact hall p (List.mem_of_getElem? hp)
          · rw [show dst = d from hd]; exact hn
      · cases h
    | _ => simp at hm
  | callv d q fv xs =>
    obtain ⟨dst, op, ty, pos, aft, gd⟩ := o
    cases op <;> simp [mOpC, mOp] at hm
    rename_i c
    obtain ⟨callee, args, ats⟩ := c
    cases callee with
    | value y =>
      simp at hm
      obtain ⟨hfv, hxs⟩ := hm
      simp only [opStep] at h
      split at h
      · rename_i f caps hcl
        simp only [Option.bind_eq_some_iff] at h
        obtain ⟨vs, hvs, h⟩ := h
        obtain ⟨F, us, hf, hv, hul, hcok, hur⟩ := (evalX_sim hI hfv hcl).fnInv
        unfold doCall at h
        split at h
        · rename_i hall
          simp only [List.all_eq_true] at hall
          obtain ⟨e1, e2⟩ := evalXs_sim hI hxs hvs
          cases hc : cf f (vs ++ caps) s.gh with
          | none => simp [hc] at h
          | some rg =>
            obtain ⟨r, gh'⟩ := rg
            simp only [hc] at h
            obtain ⟨⟨fn, cd, hfn, hnm, hbd⟩, hok⟩ := hcf f (vs ++ caps) s.gh r gh' F hc hall hf
            have hs' : s' = ⟨putO s.env d r, s.lh, gh'⟩ := by
              split at h
              · split at h
                · rename_i he; cases h; rw [he]
                · cases h
              · cases h; rfl
            subst hs'
            have hvl : (args.toList.map a.eval).length = vs.length := by simpa using e1
            refine call_wp (g := true) (args := args.toList.map a.eval ++ us) (vs := vs ++ caps) (F := F) (r := r) (gh' := gh') hI ?_ hok (by simp only [List.length_append]; omega) (fun i p v hp hv => ?_) (by simp) hlt' ?_
            · have hcap : args.map a.eval = (List.map a.eval args.toList).toArray := by apply Array.ext'; simp
              simp [execOp, resolve, Deferred.ofValue, invoke, hv, hcap, enter_run hfn hnm hbd]
            · by_cases hi : i < vs.length
              · rw [List.getElem?_append_left hi] at hp
                rw [List.getElem?_append_left (by omega)] at hv
                simp only [List.getElem?_map, Option.map_eq_some_iff] at hv
                obtain ⟨y, hy, rfl⟩ := hv
                exact (e2 i p y hp hy).repP (hall p (List.mem_append_left _ (List.mem_of_getElem? hp)))
              · rw [List.getElem?_append_right (by omega)] at hp
                rw [List.getElem?_append_right (by omega), hvl] at hv
                exact hur _ p v hp hv
            · rw [show dst = d from hd]; exact hn
        · cases h
      · rename_i f caps hcl
        simp only [Option.bind_eq_some_iff] at h
        obtain ⟨vs, hvs, h⟩ := h
        obtain ⟨F, us, hf, hv, hul, hcok, hur⟩ := (evalX_sim hI hfv hcl).bfnInv
        unfold doCall at h
        split at h
        · rename_i hall
          simp only [List.all_eq_true] at hall
          obtain ⟨e1, e2⟩ := evalXs_sim hI hxs hvs
          cases hc : cf f (caps ++ vs) s.gh with
          | none => simp [hc] at h
          | some rg =>
            obtain ⟨r, gh'⟩ := rg
            simp only [hc] at h
            obtain ⟨⟨fn, cd, hfn, hnm, hbd⟩, hok⟩ := hcf f (caps ++ vs) s.gh r gh' F hc hall hf
            have hs' : s' = ⟨putO s.env d r, s.lh, gh'⟩ := by
              split at h
              · split at h
                · rename_i he; cases h; rw [he]
                · cases h
              · cases h; rfl
            subst hs'
            have hvl : (args.toList.map a.eval).length = vs.length := by simpa using e1
            refine call_wp (g := true) (args := us ++ args.toList.map a.eval) (vs := caps ++ vs) (F := F) (r := r) (gh' := gh') hI ?_ hok (by simp only [List.length_append]; omega) (fun i p v hp hv => ?_) (by simp) hlt' ?_
            · have hcap : args.map a.eval = (List.map a.eval args.toList).toArray := by apply Array.ext'; simp
              simp [execOp, resolve, Deferred.ofValue, invoke, hv, hcap, enter_run hfn hnm hbd]
            · by_cases hi : i < caps.length
              · rw [List.getElem?_append_left hi] at hp
                rw [List.getElem?_append_left (by omega)] at hv
                exact hur _ p v hp hv
              · rw [List.getElem?_append_right (by omega)] at hp
                rw [List.getElem?_append_right (by omega), hul] at hv
                simp only [List.getElem?_map, Option.map_eq_some_iff] at hv
                obtain ⟨y, hy, rfl⟩ := hv
                exact (e2 _ p y hp hy).repP (hall p (List.mem_append_right _ (List.mem_of_getElem? hp)))
            · rw [show dst = d from hd]; exact hn
        · cases h
      · cases h
    | _ => simp at hm
  | callE d fv xs =>
    obtain ⟨dst, op, ty, pos, aft, gd⟩ := o
    cases op <;> simp [mOpC, mOp] at hm
    rename_i c
    obtain ⟨callee, args, ats⟩ := c
    cases callee with
    | value y =>
      simp at hm
      obtain ⟨hfv, hxs⟩ := hm
      simp only [opStep] at h
      split at h
      · rename_i f caps hcl
        simp only [Option.bind_eq_some_iff] at h
        obtain ⟨vs, hvs, h⟩ := h
        obtain ⟨F, us, hf, hv, hul, hcok, hur⟩ := (evalX_sim hI hfv hcl).fnInv
        unfold doEl at h
        simp only [Option.bind_eq_some_iff] at h
        obtain ⟨ws, hws, h⟩ := h
        split at h
        · rename_i hall
          obtain ⟨hall0, hall, hng⟩ := hall
          simp only [List.all_eq_true] at hall hall0
          obtain ⟨e1, e2⟩ := evalXs_sim hI hxs hvs
          split at h
          · rename_i r hc
            split at h
            · rename_i hfl
              cases h
              obtain ⟨⟨fn, cd, hfn, hnm, hbd⟩, hok⟩ := hcf f ws [] r [] F hc hall hf
              have hvl : (args.toList.map a.eval).length = vs.length := by simpa using e1
              refine el_wp (args := args.toList.map a.eval ++ us) (vs := vs ++ caps) (us := ws) (F := F) (r := r) hI ?_ hok (by simp only [List.length_append]; omega) (fun i p v hp hv => ?_) hws hng hfl hlt' ?_
              · have hcap : args.map a.eval = (List.map a.eval args.toList).toArray := by apply Array.ext'; simp
                simp [execOp, resolve, Deferred.ofValue, invoke, hv, hcap, enter_run hfn hnm hbd]
              · by_cases hi : i < vs.length
                · rw [List.getElem?_append_left hi] at hp
                  rw [List.getElem?_append_left (by omega)] at hv
                  simp only [List.getElem?_map, Option.map_eq_some_iff] at hv
                  obtain ⟨y, hy, rfl⟩ := hv
                  exact (e2 i p y hp hy).repP (hall0 p (List.mem_append_left _ (List.mem_of_getElem? hp)))
                · rw [List.getElem?_append_right (by omega)] at hp
                  rw [List.getElem?_append_right (by omega), hvl] at hv
                  exact hur _ p v hp hv
              · rw [show dst = d from hd]; exact hn
            · cases h
          · cases h
        · cases h
      · cases h
    | _ => simp at hm
  | callF d f xs =>
    obtain ⟨dst, op, ty, pos, aft, gd⟩ := o
    cases op <;> simp [mOpC, mOp] at hm
    rename_i c
    obtain ⟨callee, args, ats⟩ := c
    cases callee with
    | value y =>
      cases y <;> simp at hm
      rename_i F
      obtain ⟨hf, hxs⟩ := hm
      simp only [opStep, Option.bind_eq_some_iff] at h
      obtain ⟨vs, hvs, h⟩ := h
      unfold doFree at h
      split at h
      · rename_i hall
        obtain ⟨hall, hng⟩ := hall
        simp only [List.all_eq_true] at hall
        obtain ⟨e1, e2⟩ := evalXs_sim hI hxs hvs
        split at h
        · rename_i r hc
          split at h
          · rename_i hrg
            cases h
            obtain ⟨⟨fn, cd, hfn, hnm, hbd⟩, hok⟩ := hcf f vs [] r [] F hc hall hf
            refine call_wp (g := false) (args := args.toList.map a.eval) (vs := vs) (F := F) (r := r) (gh' := []) hI ?_ hok (by simpa using e1) (fun i p v hp hv => ?_) (fun _ => ⟨hng, hrg⟩) hlt' ?_
            · have hcap : args.map a.eval = (List.map a.eval args.toList).toArray := by apply Array.ext'; simp
              have hev : a.eval (.func F) = .func (.func F) #[] #[] := rfl
              simp [execOp, resolve, Deferred.ofValue, invoke, hev, hcap, enter_run hfn hnm hbd]
            · simp only [List.getElem?_map, Option.map_eq_some_iff] at hv
              obtain ⟨y, hy, rfl⟩ := hv
              refine (e2 i p y hp hy).repP ?_
              exact hall p (List.mem_of_getElem? hp)
            · rw [show dst = d from hd]; exact hn
          · cases h
        · cases h
      · cases h
    | _ => simp at hm
  | callP d f xs ns =>
    obtain ⟨dst, op, ty, pos, aft, gd⟩ := o
    cases op <;> simp [mOpC, mOp] at hm
    rename_i c
    obtain ⟨callee, args, ats⟩ := c
    cases callee with
    | value y =>
      cases y <;> simp at hm
      rename_i F
      simp only [opStep, Option.bind_eq_some_iff] at h
      obtain ⟨vs, hvs, s1, h1, h2⟩ := h
      split at h2
      · cases h2
        exact plain_wp hcf hI rfl hm.1 hm.2 hd hlt' hvs h1 hn
      · cases h2
    | _ => simp at hm
  | callR d f xs n o2 =>
    obtain ⟨dst, op, ty, pos, aft, gd⟩ := o
    cases op <;> simp [mOpC, mOp] at hm
    rename_i c
    obtain ⟨callee, args, ats⟩ := c
    cases callee with
    | value y =>
      cases y <;> simp at hm
      rename_i F
      simp only [opStep, Option.bind_eq_some_iff] at h
      obtain ⟨vs, hvs, h⟩ := h
      split at h
      · unfold doCallR at h
        simp only [Option.bind_eq_some_iff] at h
        obtain ⟨s1, h1, _, _, _, _, _, _, _, _, h2⟩ := h
        split at h2
        · cases h2
          exact plain_wp hcf hI rfl hm.1 hm.2 hd hlt' hvs h1 hn
        · cases h2
      · cases h
    | _ => simp at hm
  | appendE => exact (sim_appendE (cf := cf) hI (by simpa [mOpC] using hm) hd (hlt _ rfl) h).wp hn
  | loadKB d x n =>
    have h2 : opStep cf s (.loadK d x) = some s' := by
      simp only [opStep] at h ⊢
      split at h
      · rename_i hp _
        split at h
        · rw [hp]; exact h
        · cases h
      · cases h
    exact (sim_loadK (cf := cf) hI (by simpa [mOpC] using hm) hd (hlt _ rfl) h2).wp hn
  | loadTB d x n o2 =>
    have h2 : opStep cf s (.loadT d x) = some s' := by
      simp only [opStep] at h ⊢
      split at h
      · rename_i hp _
        split at h
        · rw [hp]; exact h
        · cases h
      · cases h
    exact (sim_loadT (cf := cf) ⟨hI, by simpa [mOpC] using hm, hd, hlt⟩ h2).wp hn
  | loadB d agg k x n =>
    have h2 : opStep cf s (.load d agg k x) = some s' := by
      simp only [opStep] at h ⊢
      split at h
      · rename_i hp _
        split at h
        · rw [hp]; exact h
        · cases h
      · cases h
    exact (sim_load' (cf := cf) ⟨hI, by simpa [mOpC] using hm, hd, hlt⟩ h2).wp hn
  | loadJ d agg k x =>
    have h2 : opStep cf s (.load d agg k x) = some s' := by
      simp only [opStep] at h ⊢
      split at h
      · rename_i hp
        rw [hp]; exact h
      · cases h
    exact (sim_load' (cf := cf) ⟨hI, by simpa [mOpC] using hm, hd, hlt⟩ h2).wp hn
  | appendP d bytes y x ns =>
    simp only [opStep, Option.bind_eq_some_iff] at h
    obtain ⟨s1, h1, h2⟩ := h
    split at h2
    · cases h2
      exact (sim_appendN (cf := cf) hI (by simpa [mOpC] using hm) hd (hlt _ rfl) h1).wp hn
    · cases h2
  | mkarr => exact (sim_mkarr (cf := cf) hI (by simpa [mOpC] using hm) hd (hlt _ rfl) h).wp hn
  | buildA => exact (sim_buildA (cf := cf) hI (by simpa [mOpC] using hm) hd hlt h).wp hn
  | loadN d agg k x n =>
    have h2 : opStep cf s (.load d agg k x) = some s' := by
      simp only [opStep] at h ⊢
      split at h
      · rename_i hp _
        split at h
        · rw [hp]; exact h
        · cases h
      · cases h
    exact (sim_load' (cf := cf) ⟨hI, by simpa [mOpC] using hm, hd, hlt⟩ h2).wp hn
  | loadL d x =>
    have h2 : opStep cf s (.loadT d x) = some s' := by
      simp only [opStep] at h ⊢
      split at h
      · rename_i hp
        rw [hp]; exact h
      · cases h
    exact (sim_loadT (cf := cf) ⟨hI, by simpa [mOpC] using hm, hd, hlt⟩ h2).wp hn
  | mv => exact (sim_mv ⟨hI, by simpa [mOpC] using hm, hd, hlt⟩ h).wp hn
  | tk => exact (sim_tk ⟨hI, by simpa [mOpC] using hm, hd, hlt⟩ h).wp hn
  | pick => exact (sim_pick ⟨hI, by simpa [mOpC] using hm, hd, hlt⟩ h).wp hn
  | box => exact (sim_box ⟨hI, by simpa [mOpC] using hm, hd, hlt⟩ h).wp hn
  | alloc => exact (sim_alloc ⟨hI, by simpa [mOpC] using hm, hd, hlt⟩ h).wp hn
  | build => exact (sim_build ⟨hI, by simpa [mOpC] using hm, hd, hlt⟩ h).wp hn
  | buildT => exact (sim_buildT ⟨hI, by simpa [mOpC] using hm, hd, hlt⟩ h).wp hn
  | buildSl => exact (sim_buildSl ⟨hI, by simpa [mOpC] using hm, hd, hlt⟩ h).wp hn
  | load => exact (sim_load ⟨hI, by simpa [mOpC] using hm, hd, hlt⟩ h).wp hn
  | loadT => exact (sim_loadT ⟨hI, by simpa [mOpC] using hm, hd, hlt⟩ h).wp hn
  | store => exact (sim_store ⟨hI, by simpa [mOpC] using hm, hd, hlt⟩ h).wp hn
  | nilc => exact (sim_nilc ⟨hI, by simpa [mOpC] using hm, hd, hlt⟩ h).wp hn
  | bin => exact (sim_bin ⟨hI, by simpa [mOpC] using hm, hd, hlt⟩ h).wp hn
  | eqa => exact (sim_eqa ⟨hI, by simpa [mOpC] using hm, hd, hlt⟩ h).wp hn
  | eqb => exact (sim_eqb ⟨hI, by simpa [mOpC] using hm, hd, hlt⟩ h).wp hn
  | eqn => exact (sim_eqn ⟨hI, by simpa [mOpC] using hm, hd, hlt⟩ h).wp hn
  | un => exact (sim_un ⟨hI, by simpa [mOpC] using hm, hd, hlt⟩ h).wp hn
  | conv => exact (sim_conv ⟨hI, by simpa [mOpC] using hm, hd, hlt⟩ h).wp hn
  | mkfn => exact (sim_mkfn ⟨hI, by simpa [mOpC] using hm, hd, hlt⟩ h).wp hn
  | mkbf => exact (sim_mkbf ⟨hI, by simpa [mOpC] using hm, hd, hlt⟩ h).wp hn
  | storeK => exact (sim_storeK hI (by simpa [mOpC] using hm) hd h).wp hn
  | clearK => exact (sim_clearK hI (by simpa [mOpC] using hm) hd h).wp hn
  | mkmap => exact (sim_mkmap ⟨hI, by simpa [mOpC] using hm, hd, hlt⟩ h).wp hn
  | mksl => exact (sim_mksl ⟨hI, by simpa [mOpC] using hm, hd, hlt⟩ h).wp hn
  | slice => exact (sim_slice ⟨hI, by simpa [mOpC] using hm, hd, hlt⟩ h).wp hn
  | sliceS => exact (sim_sliceS ⟨hI, by simpa [mOpC] using hm, hd, hlt⟩ h).wp hn
  | faddr => exact (sim_faddr ⟨hI, by simpa [mOpC] using hm, hd, hlt⟩ h).wp hn
  | field => exact (sim_field ⟨hI, by simpa [mOpC] using hm, hd, hlt⟩ h).wp hn
  | iaddr => exact (sim_iaddr ⟨hI, by simpa [mOpC] using hm, hd, hlt⟩ h).wp hn
  | index => exact (sim_index ⟨hI, by simpa [mOpC] using hm, hd, hlt⟩ h).wp hn
  | indexS => exact (sim_indexS ⟨hI, by simpa [mOpC] using hm, hd, hlt⟩ h).wp hn
  | lookup => exact (sim_lookup ⟨hI, by simpa [mOpC] using hm, hd, hlt⟩ h).wp hn
  | mupd => exact (sim_mupd ⟨hI, by simpa [mOpC] using hm, hd, hlt⟩ h).wp hn
  | len => exact (sim_len ⟨hI, by simpa [mOpC] using hm, hd, hlt⟩ h).wp hn
  | append => exact (sim_append ⟨hI, by simpa [mOpC] using hm, hd, hlt⟩ h).wp hn
  | appendK => exact (sim_appendK hI (by simpa [mOpC] using hm) hd (hlt _ rfl) h).wp hn
  | appendN => exact (sim_appendN hI (by simpa [mOpC] using hm) hd (hlt _ rfl) h).wp hn
  | loadH d x =>
    have h' : opStep cf s (.load d false 1 x) = some s' := by
      simp only [opStep] at h ⊢
      split at h
      · rename_i b off hp
        simp only [Option.bind_eq_some_iff, Option.map_eq_some_iff] at h
        obtain ⟨cs, hc, v, hv, rfl⟩ := h
        simp [hp, St.cellsAt, hc, grab, hv]
      · cases h
    exact (sim_load ⟨hI, by simpa [mOpC] using hm, hd, hlt⟩ h').wp hn
  | loadK => exact (sim_loadK hI (by simpa [mOpC] using hm) hd (hlt _ rfl) h).wp hn
  | buildSlK => exact (sim_buildSlK hI (by simpa [mOpC] using hm) hd (hlt _ rfl) h).wp hn
  | maxi => exact (sim_maxi ⟨hI, by simpa [mOpC] using hm, hd, hlt⟩ h).wp hn
  | extract => exact (sim_extract ⟨hI, by simpa [mOpC] using hm, hd, hlt⟩ h).wp hn
end
end Go.Lw
end

/-! Regions that are run as they stand. -/
section
namespace Go.Lw
open Go Go.RowKit
section
variable {fi : FI} {M M' : Mem} {w w' : World} {P : Program} {s s' : St} {a : Act} {cf : CallF}
def mGuard (ops : Array Oper) : Option (Nat × Bool) → Option (Nat × Bool) → Bool
  | none, none => true
  | some (t, want), some (g, want') => ((ops[g]?).bind (·.dst) == some t) && (want == want')
  | _, _ => false
def mOpG (P : Program) (fi : FI) (N : Nat) (ops : Array Oper) (i : IOpG) (o : Oper) : Bool :=
  mOpC P fi i.op o.op && (o.dst == opDst i.op) && (match opDst i.op with | some d => decide (d < N) | none => true) && mGuard ops i.guard o.guard
def mOps (P : Program) (fi : FI) (N : Nat) (ops : Array Oper) : List IOpG → List Oper → Bool
  | [], [] => true
  | i :: is, o :: os => mOpG P fi N ops i o && mOps P fi N ops is os
  | _, _ => false
theorem mOpG_spec {N : Nat} {ops : Array Oper} {i : IOpG} {o : Oper} (h : mOpG P fi N ops i o = true) :
    mOpC P fi i.op o.op = true ∧ o.dst = opDst i.op ∧ (∀ d, opDst i.op = some d → d < N) ∧ mGuard ops i.guard o.guard = true := by
  simp only [mOpG, Bool.and_eq_true, beq_iff_eq] at h
  obtain ⟨⟨⟨h1, h2⟩, h3⟩, h4⟩ := h
  refine ⟨h1, h2, fun d hd => ?_, h4⟩
  rw [hd] at h3
  simpa using h3
noncomputable def opG (cf : CallF) (i : IOpG) (s : St) : Option St :=
  match i.guard with
  | none => opStep cf s i.op
  | some (g, want) => match get s.env g with
    | some (.bool b) => if b = want then opStep cf s i.op else some (skipped s i.op)
    | some .und => some (skipped s i.op)
    | _ => none
theorem opsRun_cons (i : IOpG) (l : List IOpG) (s : St) : opsRun cf (i :: l) s = (opG cf i s).bind (opsRun cf l) := by
  obtain ⟨op, gd⟩ := i
  cases gd with
  | none => rfl
  | some q =>
    obtain ⟨g, want⟩ := q
    simp only [opsRun, opG]
    cases hg : get s.env g with
    | none => rfl
    | some v =>
      cases v <;> simp only [Option.bind_none, Option.bind_some]
      split <;> simp
theorem skip_inv (hI : Inv fi M w s a) {i : IOp} (hlt : ∀ d, opDst i = some d → d < a.tmps.size) : Inv fi M w (skipped s i) (a.put (opDst i) undef) := by
  unfold skipped
  cases hd : opDst i with
  | none => exact hI
  | some d => exact hI.put (hlt d hd) (RepP.repE .und).repAt
theorem opG_wp (hcf : CfOk P fi cf) (hI : Inv fi M w s a) {N : Nat} {ops : Array Oper} {i : IOpG} {o : Oper} (hm : mOpG P fi N ops i o = true) (hN : N ≤ a.tmps.size) (h : opG cf i s = some s')
    {next : Act → World → Prop} {Q : Exit → Act → World → Prop} (hn : ∀ a' M' w', Inv fi M' w' s' a' → Kp M w M' w' → a'.tmps.size = a.tmps.size → next a' w') :
    if Region.wanted o (yielded ops a.tmps) then o.wp P a w next Q else next (a.put o.dst undef) w := by
  obtain ⟨h1, h2, h3, h4⟩ := mOpG_spec hm
  have hlt : ∀ d, opDst i.op = some d → d < a.tmps.size := fun d hd => Nat.lt_of_lt_of_le (h3 d hd) hN
  have hskip : next (a.put o.dst undef) w ∨ s' ≠ skipped s i.op := by
    by_cases hs : s' = skipped s i.op
    · left
      subst hs
      rw [h2]
      exact hn _ M w (skip_inv hI hlt) (Kp.refl M w) (by cases opDst i.op <;> simp [Act.put])
    · exact .inr hs
  unfold opG at h
  unfold Region.wanted
  cases hg : i.guard with
  | none =>
    rw [hg] at h h4
    cases hog : o.guard with
    | none => simp only [if_true]; exact op_wp hcf hI h1 h2 hlt h hn
    | some q => rw [hog] at h4; simp [mGuard] at h4
  | some q =>
    obtain ⟨g, want⟩ := q
    rw [hg] at h h4
    cases hog : o.guard with
    | none => rw [hog] at h4; simp [mGuard] at h4
    | some q' =>
      obtain ⟨j, want'⟩ := q'
      rw [hog] at h4
      simp only [mGuard, Bool.and_eq_true, beq_iff_eq] at h4
      obtain ⟨hdj, rfl⟩ := h4
      simp only at h
      have hy : ∀ v, get s.env g = some v → yielded ops a.tmps j = (match a.tmps.getD g undef with | .bool b => some b | _ => none) := by
        intro v hv
        have hlt := (hI.env g v hv).1
        simp only [yielded, hdj, Option.bind_some]
        simp only [Array.getD_eq_getD_getElem?, Array.getElem?_eq_getElem hlt, Option.getD_some]
        split <;> split <;> simp_all
      split at h
      · rename_i b hb
        have hv : a.tmps.getD g undef = .bool b := RepE.bool (hI.env g _ hb).2
        simp only [hy _ hb, hv]
        split at h
        · rename_i hbw
          subst hbw
          simp only [beq_self_eq_true, if_true]
          exact op_wp hcf hI h1 h2 hlt h hn
        · rename_i hbw
          cases h
          rw [if_neg (by simpa using hbw)]
          exact hskip.resolve_right (by simp)
      · rename_i hb
        cases h
        have hv : a.tmps.getD g undef = undef := by
          have := (hI.env g _ hb).2
          generalize a.tmps.getD g undef = u at this
          cases (show RepP fi M w .und u from this); rfl
        simp only [hy _ hb, hv]
        rw [if_neg (by simp [undef])]
        exact hskip.resolve_right (by simp)
      · cases h
theorem ops_wp (hcf : CfOk P fi cf) {N : Nat} {ops : Array Oper} {Q : Exit → Act → World → Prop} : ∀ {is : List IOpG} {os : List Oper} {M : Mem} {w : World} {s : St} {a : Act}, mOps P fi N ops is os = true → Inv fi M w s a → N ≤ a.tmps.size → opsRun cf is s = some s' →
    (∀ a' M' w', Inv fi M' w' s' a' → Kp M w M' w' → a'.tmps.size = a.tmps.size → Q .normal a' w') → wpList P ops Q os a w
  | [], [], M, w, s, a, _, hI, _, h, hn => by
    simp [opsRun] at h; subst h
    exact hn a M w hI (Kp.refl M w) rfl
  | [], _ :: _, _, _, _, _, hm, _, _, _, _ => by simp [mOps] at hm
  | _ :: _, [], _, _, _, _, hm, _, _, _, _ => by simp [mOps] at hm
  | i :: is, o :: os, M, w, s, a, hm, hI, hN, h, hn => by
    simp only [mOps, Bool.and_eq_true] at hm
    rw [opsRun_cons, Option.bind_eq_some_iff] at h
    obtain ⟨s1, h1, h2⟩ := h
    have := opG_wp (Q := Q) (next := wpList P ops Q os) hcf hI hm.1 hN h1 (fun a' M' w' hI' hk hs =>
      ops_wp hcf hm.2 hI' (by omega) h2 (fun a2 M2 w2 hI2 hk2 hs2 => hn a2 M2 w2 hI2 (hk.trans hk2) (hs2.trans hs)))
    unfold wpList
    split
    · rename_i hw; rw [if_pos hw] at this; exact .inl this
    · rename_i hw; rw [if_neg hw] at this; exact this
end
end Go.Lw
end

/-! What an operation looks at and what it changes: two that do not meet may change places. -/
section
namespace Go.Lw
open Go Go.RowKit
def rdX : IX → List Nat
  | .t n => [n]
  | _ => []
def rdXs (xs : List IX) : List Nat := xs.flatMap rdX
def rdO : Option IX → List Nat
  | some x => rdX x
  | none => []
def rdPs (ps : List (Nat × Nat × IX)) : List Nat := ps.flatMap fun p => rdX p.2.2
def rd : IOp → List Nat
  | .mv _ x | .clearK x | .box _ _ _ x | .load _ _ _ x | .loadK _ x | .loadH _ x | .loadT _ x | .loadL _ x | .nilc _ x | .eqn _ _ x | .un _ _ x | .conv _ _ x | .faddr _ x _ | .field _ _ _ _ x | .len _ _ x | .extract _ x _ | .mksl _ _ _ _ _ x | .mkarr _ _ _ _ x | .loadJ _ _ _ x => rdX x
  | .tk _ n => [n]
  | .pick _ c x y => rdX c ++ (rdX x ++ rdX y)
  | .alloc _ _ _ | .mkmap _ => []
  | .build _ _ ps | .buildT _ _ ps | .buildA _ _ ps => rdPs ps
  | .buildSl _ _ xs | .buildSlK _ xs | .mkfn _ _ xs | .mkbf _ _ xs | .maxi _ xs | .call _ _ _ xs | .callF _ _ xs => rdXs xs
  | .store _ _ x y | .bin _ _ x y | .eqa _ _ _ x y | .eqb _ _ x y | .iaddr _ _ _ x y | .index _ _ _ _ x y | .indexS _ x y | .lookup _ _ x y _ _ | .append _ _ _ x y | .appendN _ _ x y | .appendK _ _ x y | .appendE _ _ x y | .storeK x y => rdX x ++ rdX y
  | .slice _ _ x lo hi | .sliceS _ x lo hi => rdX x ++ (rdO lo ++ rdO hi)
  | .mupd _ m k x => rdX m ++ (rdX k ++ rdX x)
  | .callv _ _ f xs | .callE _ f xs => rdX f ++ rdXs xs
  | .loadN _ _ _ x n | .loadB _ _ _ x n | .loadKB _ x n | .loadTB _ x n _ => n :: rdX x
  | .callP _ _ xs ns => ns ++ rdXs xs
  | .callR _ _ xs n _ => n :: rdXs xs
  | .appendP _ _ x y ns => ns ++ (rdX x ++ rdX y)
def wr (i : IOp) : List Nat :=
  (opDst i).toList ++ match i with
    | .tk _ n => [n]
    | .box _ _ true x | .store true _ _ x | .append _ _ _ x _ | .appendE _ _ x _ => rdX x
    | .buildT _ _ ps | .buildA _ _ ps => rdPs ps
    | _ => []
def cls : IOp → Nat
  | .box _ false _ _ | .alloc _ false _ => 3
  | .box _ true _ _ | .alloc _ true _ | .mksl _ true _ _ _ _ => 5
  | .mkmap _ | .buildSlK _ _ => 4
  | .load _ _ _ _ | .loadN _ _ _ _ _ | .loadB _ _ _ _ _ | .loadJ _ _ _ _ | .lookup _ _ _ _ _ _ | .callE _ _ _ => 2
  | .len _ kd _ => if kd = 2 then 2 else 0
  | .loadK _ _ | .loadKB _ _ _ | .appendE _ _ _ _ => 1
  | .callP _ _ _ _ | .callR _ _ _ _ _ | .buildA _ _ _ => 5
  | .call _ q _ _ | .callv _ q _ _ => if q then 1 else 5
  | .loadL _ _ => 6
  | .loadH _ _ => 8
  | .loadT _ _ | .loadTB _ _ _ _ | .appendK _ _ _ _ => 7
  | .appendN _ _ _ _ | .appendP _ _ _ _ _ => 9
  | .store _ _ _ _ | .mupd _ _ _ _ | .storeK _ _ | .clearK _ => 5
  | _ => 0
def GObj.deg : GObj → GObj
  | .cells cs => .cells (cs.map degr1)
  | .map es => .map es
  | .stk _ _ => .stk 0 []
def HOk (c : Nat) (s s2 : St) : Prop :=
  match c with
  | 0 => True
  | 1 => s2.gh = s.gh
  | 2 => (∀ (b : Nat) (cs : List PV), s.lh[b]? = some cs → ∃ cs2, s2.lh[b]? = some cs2 ∧ cs2.map degr1 = cs.map degr1) ∧ ∀ (b : Nat) (o : GObj), s.gh[b]? = some o → ∃ o2, s2.gh[b]? = some o2 ∧ o2.deg = o.deg
  | 8 => s2.lh = s.lh
  | _ => s2.lh = s.lh ∧ s2.gh = s.gh
def HRes (c : Nat) (s s' s2 s2' : St) : Prop :=
  match c with
  | 0 | 1 | 2 | 8 => s'.lh = s.lh ∧ s'.gh = s.gh ∧ s2'.lh = s2.lh ∧ s2'.gh = s2.gh
  | 3 => (∃ cs, s'.lh = s.lh ++ [cs]) ∧ s'.gh = s.gh ∧ s2'.lh = s'.lh ∧ s2'.gh = s'.gh
  | 4 => s'.lh = s.lh ∧ (∃ o, s'.gh = s.gh ++ [o]) ∧ s2'.lh = s'.lh ∧ s2'.gh = s'.gh
  | 6 => s'.lh.map (List.map degr1) = s.lh.map (List.map degr1) ∧ s'.gh = s.gh ∧ s2'.lh = s'.lh ∧ s2'.gh = s'.gh
  | 7 => s'.lh.map (List.map degr1) = s.lh.map (List.map degr1) ∧ s'.gh.map GObj.deg = s.gh.map GObj.deg ∧ s2'.lh = s'.lh ∧ s2'.gh = s'.gh
  | 9 => s'.lh = s.lh ∧ (∀ (b : Nat) (o : GObj), s.gh[b]? = some o → ∃ o2, s'.gh[b]? = some o2 ∧ o2.deg = o.deg) ∧ s2'.lh = s'.lh ∧ s2'.gh = s'.gh
  | _ => s2'.lh = s'.lh ∧ s2'.gh = s'.gh
section
variable {s s' s2 : St} {cf : CallF}
theorem evalX_cong {e e2 : List (Nat × PV)} {x : IX} (h : ∀ t ∈ rdX x, get e2 t = get e t) : evalX e2 x = evalX e x := by
  cases x <;> simp [evalX]
  rw [h _ (by simp [rdX])]
theorem evalK_cong {e e2 : List (Nat × PV)} {x : IX} (h : ∀ t ∈ rdX x, get e2 t = get e t) : evalK e2 x = evalK e x := by
  cases x <;> simp [evalK]
  rw [h _ (by simp [rdX])]
theorem evalXs_cong {e e2 : List (Nat × PV)} : ∀ {xs : List IX}, (∀ t ∈ rdXs xs, get e2 t = get e t) → evalXs e2 xs = evalXs e xs
  | [], _ => rfl
  | x :: l, h => by
    simp only [rdXs, List.flatMap_cons, List.mem_append] at h
    simp only [evalXs]
    rw [evalX_cong (fun t ht => h t (.inl ht)), evalXs_cong (xs := l) (fun t ht => h t (.inr ht))]
theorem evalPs_cong {e e2 : List (Nat × PV)} : ∀ {ps : List (Nat × Nat × IX)}, (∀ t ∈ rdPs ps, get e2 t = get e t) → evalPs e2 ps = evalPs e ps
  | [], _ => rfl
  | (o, k, x) :: l, h => by
    simp only [rdPs, List.flatMap_cons, List.mem_append] at h
    simp only [evalPs]
    rw [evalX_cong (fun t ht => h t (.inl ht)), evalPs_cong (ps := l) (fun t ht => h t (.inr ht))]
theorem sliceBd_cong {e e2 : List (Nat × PV)} {d : Nat} {x : Option IX} (h : ∀ t ∈ rdO x, get e2 t = get e t) : sliceBd e2 d x = sliceBd e d x := by
  cases x with
  | none => rfl
  | some x => simp only [sliceBd]; rw [evalX_cong h]
def EnvR (W : List Nat) (e' e2 e2' : List (Nat × PV)) : Prop := ∀ t, get e2' t = if t ∈ W then get e' t else get e2 t
theorem EnvR.put {e e2 : List (Nat × PV)} {d : Nat} {v : PV} {W : List Nat} (h : ∀ t, t ∈ W ↔ t = d) : EnvR W (put e d v) e2 (put e2 d v) := by
  intro t
  rw [get_put, get_put]
  by_cases hd : d = t
  · subst hd; simp [(h d).2 rfl]
  · have : t ∉ W := fun hw => hd ((h t).1 hw).symm
    simp [hd, this]
theorem EnvR.refl {e' e2 : List (Nat × PV)} {W : List Nat} (h : ∀ t, t ∉ W) : EnvR W e' e2 e2 := fun t => by simp [h t]
theorem takeX_cong {e e2 e' : List (Nat × PV)} {x : IX} {v : PV} (h : ∀ t ∈ rdX x, get e2 t = get e t) (ht : takeX e x = some (v, e')) :
    ∃ e2', takeX e2 x = some (v, e2') ∧ EnvR (rdX x) e' e2 e2' := by
  cases x with
  | t n =>
    simp only [takeX, Option.map_eq_some_iff, Prod.mk.injEq] at ht ⊢
    obtain ⟨v', hv, rfl, rfl⟩ := ht
    rw [h n (by simp [rdX])]
    exact ⟨_, ⟨v', hv, rfl, rfl⟩, EnvR.put (by simp [rdX])⟩
  | c p =>
    simp only [takeX, Option.some.injEq, Prod.mk.injEq] at ht ⊢
    obtain ⟨rfl, rfl⟩ := ht
    exact ⟨_, ⟨rfl, rfl⟩, EnvR.refl (by simp [rdX])⟩
  | f id =>
    simp only [takeX, Option.some.injEq, Prod.mk.injEq] at ht ⊢
    obtain ⟨rfl, rfl⟩ := ht
    exact ⟨_, ⟨rfl, rfl⟩, EnvR.refl (by simp [rdX])⟩
theorem EnvR.trans {W W2 : List Nat} {e' e2 e2' e'' e2'' : List (Nat × PV)} (h : EnvR W e' e2 e2') (h2 : EnvR W2 e'' e2' e2'') (hf : ∀ t, t ∉ W2 → get e'' t = get e' t) : EnvR (W ++ W2) e'' e2 e2'' := by
  intro t
  rw [h2 t, h t]
  simp only [List.mem_append]
  by_cases hw2 : t ∈ W2
  · simp [hw2]
  · by_cases hw : t ∈ W
    · simp [hw, hw2, hf t hw2]
    · simp [hw, hw2]
theorem takePs_cong : ∀ {ps : List (Nat × Nat × IX)} {e e2 e' : List (Nat × PV)} {vs : List (Nat × Nat × PV)}, (∀ t ∈ rdPs ps, get e2 t = get e t) → takePs e ps = some (vs, e') →
    ∃ e2', takePs e2 ps = some (vs, e2') ∧ EnvR (rdPs ps) e' e2 e2' ∧ ∀ t, t ∉ rdPs ps → get e' t = get e t
  | [], e, e2, e', vs, _, ht => by
    simp only [takePs, Option.some.injEq, Prod.mk.injEq] at ht ⊢
    obtain ⟨rfl, rfl⟩ := ht
    exact ⟨_, ⟨rfl, rfl⟩, EnvR.refl (by simp [rdPs]), fun _ _ => rfl⟩
  | (o, k, x) :: l, e, e2, e', vs, h, ht => by
    simp only [rdPs, List.flatMap_cons, List.mem_append] at h
    simp only [takePs, Option.bind_eq_some_iff, Option.map_eq_some_iff, Prod.exists, Prod.mk.injEq] at ht ⊢
    obtain ⟨v, e1, h1, vs', e'', h2, rfl, rfl⟩ := ht
    obtain ⟨e3, t1, t2⟩ := takeX_cong (e2 := e2) (fun t ht => h t (.inl ht)) h1
    obtain ⟨e5, u1, u2⟩ := takeX_cong (e2 := e) (fun t ht => rfl) h1
    rw [h1] at u1
    simp only [Option.some.injEq, Prod.mk.injEq, true_and] at u1
    subst u1
    obtain ⟨e4, t3, t4, t5⟩ := takePs_cong (ps := l) (e2 := e3) (fun t ht => by
      rw [t2 t]
      split
      · rfl
      · rename_i hx
        rw [u2 t, if_neg hx]
        exact h t (.inr ht)) h2
    refine ⟨e4, ⟨v, e3, t1, vs', e4, t3, rfl, rfl⟩, ?_, fun t ht => ?_⟩
    · simp only [rdPs, List.flatMap_cons]
      exact t2.trans t4 t5
    · simp only [rdPs, List.flatMap_cons, List.mem_append, not_or] at ht
      rw [t5 t ht.2, u2 t, if_neg ht.1]
end
end Go.Lw
end

/-! An operation that looks at no box: what it does elsewhere. Written by program. -/
section
namespace Go.Lw
open Go Go.RowKit
section
variable {s s' s2 : St} {cf : CallF}
def Fills (cf : CallF) (i : IOp) (d : Nat) : Prop :=
  ∀ s s2 : St, (∀ t ∈ rd i, get s2.env t = get s.env t) → ∀ s', opStep cf s i = some s' → ∃ v, s' = s.put d v ∧ opStep cf s2 i = some (s2.put d v)
theorem fills_mv {d x} : Fills cf (.mv d x) d := by
  intro s s2 ha s' h
  have h1 : evalK s2.env x = evalK s.env x := evalK_cong (fun t ht => ha t (by simp [rd, ht]))
  simp only [opStep, h1] at h ⊢
  simp only [Option.map_eq_some_iff] at h ⊢
  obtain ⟨v, hv, rfl⟩ := h
  exact ⟨v, rfl, v, hv, rfl⟩
theorem fills_pick {d c x y} : Fills cf (.pick d c x y) d := by
  intro s s2 ha s' h
  have h1 : evalX s2.env c = evalX s.env c := evalX_cong (fun t ht => ha t (by simp [rd, ht]))
  have h2 : evalX s2.env x = evalX s.env x := evalX_cong (fun t ht => ha t (by simp [rd, ht]))
  have h3 : evalX s2.env y = evalX s.env y := evalX_cong (fun t ht => ha t (by simp [rd, ht]))
  simp only [opStep, h1, h2, h3] at h ⊢
  repeat' split at h
  all_goals first
    | (cases h; done)
    | (cases h; exact ⟨_, rfl, by simp [*]⟩)
    | (simp only [Option.map_eq_some_iff] at h; obtain ⟨v, hv, rfl⟩ := h; exact ⟨_, rfl, by simp [*]⟩)
    | (simp only [Option.bind_eq_some_iff] at h; obtain ⟨p, hp, q, hq, h⟩ := h; split at h
       · rename_i hc; cases h; exact ⟨_, rfl, by simp [*]⟩
       · cases h)
theorem fills_build {d z ps} : Fills cf (.build d z ps) d := by
  intro s s2 ha s' h
  have h1 : evalPs s2.env ps = evalPs s.env ps := evalPs_cong (fun t ht => ha t (by simp [rd, ht]))
  simp only [opStep, h1] at h ⊢
  simp only [Option.bind_eq_some_iff] at h ⊢
  obtain ⟨p, hp, h⟩ := h
  split at h
  · rename_i hc
    simp only [Option.map_eq_some_iff] at h
    obtain ⟨v, hv, rfl⟩ := h
    exact ⟨_, rfl, p, hp, by rw [if_pos hc, hv]; rfl⟩
  · cases h
theorem fills_buildSl {d z els} : Fills cf (.buildSl d z els) d := by
  intro s s2 ha s' h
  have h1 : evalXs s2.env els = evalXs s.env els := evalXs_cong (fun t ht => ha t (by simp [rd, ht]))
  simp only [opStep, h1] at h ⊢
  simp only [Option.bind_eq_some_iff] at h ⊢
  obtain ⟨p, hp, h⟩ := h
  split at h
  · rename_i hc; cases h; exact ⟨_, rfl, p, hp, by rw [if_pos hc]⟩
  · cases h
theorem fills_mksl {d z bytes zero l} : Fills cf (.mksl d false z bytes zero l) d := by
  intro s s2 ha s' h
  have h1 : evalX s2.env l = evalX s.env l := evalX_cong (fun t ht => ha t (by simp [rd, ht]))
  simp only [opStep, h1] at h ⊢
  split at h
  · rename_i k n hp
    split at h
    · rename_i hc
      split at h <;> try (cases h; done)
      rename_i hf
      cases h; exact ⟨_, rfl, by rw [if_pos hc]; simp only [if_pos hf]⟩
    · cases h
  · cases h
theorem fills_nilc {d x} : Fills cf (.nilc d x) d := by
  intro s s2 ha s' h
  have h1 : evalX s2.env x = evalX s.env x := evalX_cong (fun t ht => ha t (by simp [rd, ht]))
  simp only [opStep, h1] at h ⊢
  repeat' split at h
  all_goals first
    | (cases h; done)
    | (cases h; exact ⟨_, rfl, by simp [*]⟩)
    | (simp only [Option.map_eq_some_iff] at h; obtain ⟨v, hv, rfl⟩ := h; exact ⟨_, rfl, by simp [*]⟩)
    | (simp only [Option.bind_eq_some_iff] at h; obtain ⟨p, hp, q, hq, h⟩ := h; split at h
       · rename_i hc; cases h; exact ⟨_, rfl, by simp [*]⟩
       · cases h)
theorem fills_bin {d op x y} : Fills cf (.bin d op x y) d := by
  intro s s2 ha s' h
  have h1 : evalX s2.env x = evalX s.env x := evalX_cong (fun t ht => ha t (by simp [rd, ht]))
  have h2 : evalX s2.env y = evalX s.env y := evalX_cong (fun t ht => ha t (by simp [rd, ht]))
  simp only [opStep, h1, h2] at h ⊢
  simp only [Option.bind_eq_some_iff, Option.map_eq_some_iff] at h ⊢
  obtain ⟨p, hp, q, hq, v, hv, rfl⟩ := h
  exact ⟨v, rfl, p, hp, q, hq, v, hv, rfl⟩
theorem fills_eqa {d neg ks x y} : Fills cf (.eqa d neg ks x y) d := by
  intro s s2 ha s' h
  have h1 : evalX s2.env x = evalX s.env x := evalX_cong (fun t ht => ha t (by simp [rd, ht]))
  have h2 : evalX s2.env y = evalX s.env y := evalX_cong (fun t ht => ha t (by simp [rd, ht]))
  simp only [opStep, h1, h2] at h ⊢
  repeat' split at h
  all_goals first
    | (cases h; done)
    | (cases h; exact ⟨_, rfl, by simp [*]⟩)
    | (simp only [Option.map_eq_some_iff] at h; obtain ⟨v, hv, rfl⟩ := h; exact ⟨_, rfl, by simp [*]⟩)
    | (simp only [Option.bind_eq_some_iff] at h; obtain ⟨p, hp, q, hq, h⟩ := h; split at h
       · rename_i hc; cases h; exact ⟨_, rfl, by simp [*]⟩
       · cases h)
theorem fills_eqb {d neg x y} : Fills cf (.eqb d neg x y) d := by
  intro s s2 ha s' h
  have h1 : evalX s2.env x = evalX s.env x := evalX_cong (fun t ht => ha t (by simp [rd, ht]))
  have h2 : evalX s2.env y = evalX s.env y := evalX_cong (fun t ht => ha t (by simp [rd, ht]))
  simp only [opStep, h1, h2] at h ⊢
  repeat' split at h
  all_goals first
    | (cases h; done)
    | (cases h; exact ⟨_, rfl, by simp [*]⟩)
    | (simp only [Option.map_eq_some_iff] at h; obtain ⟨v, hv, rfl⟩ := h; exact ⟨_, rfl, by simp [*]⟩)
    | (simp only [Option.bind_eq_some_iff] at h; obtain ⟨p, hp, q, hq, h⟩ := h; split at h
       · rename_i hc; cases h; exact ⟨_, rfl, by simp [*]⟩
       · cases h)
theorem fills_eqn {d neg x} : Fills cf (.eqn d neg x) d := by
  intro s s2 ha s' h
  have h1 : evalX s2.env x = evalX s.env x := evalX_cong (fun t ht => ha t (by simp [rd, ht]))
  simp only [opStep, h1] at h ⊢
  repeat' split at h
  all_goals first
    | (cases h; done)
    | (cases h; exact ⟨_, rfl, by simp [*]⟩)
    | (simp only [Option.map_eq_some_iff] at h; obtain ⟨v, hv, rfl⟩ := h; exact ⟨_, rfl, by simp [*]⟩)
    | (simp only [Option.bind_eq_some_iff] at h; obtain ⟨p, hp, q, hq, h⟩ := h; split at h
       · rename_i hc; cases h; exact ⟨_, rfl, by simp [*]⟩
       · cases h)
theorem fills_un {d op x} : Fills cf (.un d op x) d := by
  intro s s2 ha s' h
  have h1 : evalX s2.env x = evalX s.env x := evalX_cong (fun t ht => ha t (by simp [rd, ht]))
  simp only [opStep, h1] at h ⊢
  simp only [Option.bind_eq_some_iff, Option.map_eq_some_iff] at h ⊢
  obtain ⟨p, hp, v, hv, rfl⟩ := h
  exact ⟨v, rfl, p, hp, v, hv, rfl⟩
theorem fills_conv {d k x} : Fills cf (.conv d k x) d := by
  intro s s2 ha s' h
  have h1 : evalX s2.env x = evalX s.env x := evalX_cong (fun t ht => ha t (by simp [rd, ht]))
  simp only [opStep, h1] at h ⊢
  repeat' split at h
  all_goals first
    | (cases h; done)
    | (cases h; exact ⟨_, rfl, by simp [*]⟩)
    | (simp only [Option.map_eq_some_iff] at h; obtain ⟨v, hv, rfl⟩ := h; exact ⟨_, rfl, by simp [*]⟩)
    | (simp only [Option.bind_eq_some_iff] at h; obtain ⟨p, hp, q, hq, h⟩ := h; split at h
       · rename_i hc; cases h; exact ⟨_, rfl, by simp [*]⟩
       · cases h)
theorem fills_mkfn {d f caps} : Fills cf (.mkfn d f caps) d := by
  intro s s2 ha s' h
  have h1 : evalXs s2.env caps = evalXs s.env caps := evalXs_cong (fun t ht => ha t (by simp [rd, ht]))
  simp only [opStep, h1] at h ⊢
  simp only [Option.bind_eq_some_iff] at h ⊢
  obtain ⟨p, hp, h⟩ := h
  split at h
  · rename_i hc; cases h; exact ⟨_, rfl, p, hp, by rw [if_pos hc]⟩
  · cases h
theorem fills_mkbf {d f caps} : Fills cf (.mkbf d f caps) d := by
  intro s s2 ha s' h
  have h1 : evalXs s2.env caps = evalXs s.env caps := evalXs_cong (fun t ht => ha t (by simp [rd, ht]))
  simp only [opStep, h1] at h ⊢
  simp only [Option.bind_eq_some_iff] at h ⊢
  obtain ⟨p, hp, h⟩ := h
  split at h
  · rename_i hc; cases h; exact ⟨_, rfl, p, hp, by rw [if_pos hc]⟩
  · cases h
theorem fills_slice {d z x lo hi} : Fills cf (.slice d z x lo hi) d := by
  intro s s2 ha s' h
  have h1 : evalX s2.env x = evalX s.env x := evalX_cong (fun t ht => ha t (by simp [rd, ht]))
  have h2 : ∀ n, sliceBd s2.env n lo = sliceBd s.env n lo := fun n => sliceBd_cong (fun t ht => ha t (by simp [rd, ht]))
  have h3 : ∀ n, sliceBd s2.env n hi = sliceBd s.env n hi := fun n => sliceBd_cong (fun t ht => ha t (by simp [rd, ht]))
  simp only [opStep, h1, h2, h3] at h ⊢
  repeat' split at h
  all_goals first
    | (cases h; done)
    | (cases h; exact ⟨_, rfl, by simp [*]⟩)
    | (simp only [Option.map_eq_some_iff] at h; obtain ⟨v, hv, rfl⟩ := h; exact ⟨_, rfl, by simp [*]⟩)
    | (simp only [Option.bind_eq_some_iff] at h; obtain ⟨p, hp, q, hq, h⟩ := h; split at h
       · rename_i hc; cases h; exact ⟨_, rfl, by simp [*]⟩
       · cases h)
    | (simp only [Option.bind_eq_some_iff] at h; obtain ⟨p, hp, h⟩ := h; split at h
       · rename_i hc; cases h; exact ⟨_, rfl, by simp [*]⟩
       · cases h)
theorem fills_sliceS {d x lo hi} : Fills cf (.sliceS d x lo hi) d := by
  intro s s2 ha s' h
  have h1 : evalX s2.env x = evalX s.env x := evalX_cong (fun t ht => ha t (by simp [rd, ht]))
  have h2 : ∀ n, sliceBd s2.env n lo = sliceBd s.env n lo := fun n => sliceBd_cong (fun t ht => ha t (by simp [rd, ht]))
  have h3 : ∀ n, sliceBd s2.env n hi = sliceBd s.env n hi := fun n => sliceBd_cong (fun t ht => ha t (by simp [rd, ht]))
  simp only [opStep, h1, h2, h3] at h ⊢
  repeat' split at h
  all_goals first
    | (cases h; done)
    | (cases h; exact ⟨_, rfl, by simp [*]⟩)
    | (simp only [Option.map_eq_some_iff] at h; obtain ⟨v, hv, rfl⟩ := h; exact ⟨_, rfl, by simp [*]⟩)
    | (simp only [Option.bind_eq_some_iff] at h; obtain ⟨p, hp, q, hq, h⟩ := h; split at h
       · rename_i hc; cases h; exact ⟨_, rfl, by simp [*]⟩
       · cases h)
theorem fills_faddr {d x off} : Fills cf (.faddr d x off) d := by
  intro s s2 ha s' h
  have h1 : evalX s2.env x = evalX s.env x := evalX_cong (fun t ht => ha t (by simp [rd, ht]))
  simp only [opStep, h1] at h ⊢
  repeat' split at h
  all_goals first
    | (cases h; done)
    | (cases h; exact ⟨_, rfl, by simp [*]⟩)
    | (simp only [Option.map_eq_some_iff] at h; obtain ⟨v, hv, rfl⟩ := h; exact ⟨_, rfl, by simp [*]⟩)
    | (simp only [Option.bind_eq_some_iff] at h; obtain ⟨p, hp, q, hq, h⟩ := h; split at h
       · rename_i hc; cases h; exact ⟨_, rfl, by simp [*]⟩
       · cases h)
theorem fills_field {d agg k off x} : Fills cf (.field d agg k off x) d := by
  intro s s2 ha s' h
  have h1 : evalX s2.env x = evalX s.env x := evalX_cong (fun t ht => ha t (by simp [rd, ht]))
  simp only [opStep, h1] at h ⊢
  repeat' split at h
  all_goals first
    | (cases h; done)
    | (cases h; exact ⟨_, rfl, by simp [*]⟩)
    | (simp only [Option.map_eq_some_iff] at h; obtain ⟨v, hv, rfl⟩ := h; exact ⟨_, rfl, by simp [*]⟩)
    | (simp only [Option.bind_eq_some_iff] at h; obtain ⟨p, hp, q, hq, h⟩ := h; split at h
       · rename_i hc; cases h; exact ⟨_, rfl, by simp [*]⟩
       · cases h)
theorem fills_iaddr {d z arr x i} : Fills cf (.iaddr d z arr x i) d := by
  intro s s2 ha s' h
  have h1 : evalX s2.env x = evalX s.env x := evalX_cong (fun t ht => ha t (by simp [rd, ht]))
  have h2 : evalX s2.env i = evalX s.env i := evalX_cong (fun t ht => ha t (by simp [rd, ht]))
  simp only [opStep, h1, h2] at h ⊢
  repeat' split at h
  all_goals first
    | (cases h; done)
    | (cases h; exact ⟨_, rfl, by simp [*]⟩)
    | (simp only [Option.map_eq_some_iff] at h; obtain ⟨v, hv, rfl⟩ := h; exact ⟨_, rfl, by simp [*]⟩)
    | (simp only [Option.bind_eq_some_iff] at h; obtain ⟨p, hp, q, hq, h⟩ := h; split at h
       · rename_i hc; cases h; exact ⟨_, rfl, by simp [*]⟩
       · cases h)
theorem fills_index {d z arr agg x i} : Fills cf (.index d z arr agg x i) d := by
  intro s s2 ha s' h
  have h1 : evalX s2.env x = evalX s.env x := evalX_cong (fun t ht => ha t (by simp [rd, ht]))
  have h2 : evalX s2.env i = evalX s.env i := evalX_cong (fun t ht => ha t (by simp [rd, ht]))
  simp only [opStep, h1, h2] at h ⊢
  repeat' split at h
  all_goals first
    | (cases h; done)
    | (cases h; exact ⟨_, rfl, by simp [*]⟩)
    | (simp only [Option.map_eq_some_iff] at h; obtain ⟨v, hv, rfl⟩ := h; exact ⟨_, rfl, by simp [*]⟩)
    | (simp only [Option.bind_eq_some_iff] at h; obtain ⟨p, hp, q, hq, h⟩ := h; split at h
       · rename_i hc; cases h; exact ⟨_, rfl, by simp [*]⟩
       · cases h)
theorem fills_indexS {d x i} : Fills cf (.indexS d x i) d := by
  intro s s2 ha s' h
  have h1 : evalX s2.env x = evalX s.env x := evalX_cong (fun t ht => ha t (by simp [rd, ht]))
  have h2 : evalX s2.env i = evalX s.env i := evalX_cong (fun t ht => ha t (by simp [rd, ht]))
  simp only [opStep, h1, h2] at h ⊢
  repeat' split at h
  all_goals first
    | (cases h; done)
    | (cases h; exact ⟨_, rfl, by simp [*]⟩)
    | (simp only [Option.map_eq_some_iff] at h; obtain ⟨v, hv, rfl⟩ := h; exact ⟨_, rfl, by simp [*]⟩)
    | (simp only [Option.bind_eq_some_iff] at h; obtain ⟨p, hp, q, hq, h⟩ := h; split at h
       · rename_i hc; cases h; exact ⟨_, rfl, by simp [*]⟩
       · cases h)
theorem fills_maxi {d xs} : Fills cf (.maxi d xs) d := by
  intro s s2 ha s' h
  have h1 : evalXs s2.env xs = evalXs s.env xs := evalXs_cong (fun t ht => ha t (by simp [rd, ht]))
  simp only [opStep, h1] at h ⊢
  simp only [Option.bind_eq_some_iff, Option.map_eq_some_iff] at h ⊢
  obtain ⟨p, hp, v, hv, rfl⟩ := h
  exact ⟨v, rfl, p, hp, v, hv, rfl⟩
theorem fills_extract {d x i} : Fills cf (.extract d x i) d := by
  intro s s2 ha s' h
  have h1 : evalX s2.env x = evalX s.env x := evalX_cong (fun t ht => ha t (by simp [rd, ht]))
  simp only [opStep, h1] at h ⊢
  repeat' split at h
  all_goals first
    | (cases h; done)
    | (cases h; exact ⟨_, rfl, by simp [*]⟩)
    | (simp only [Option.map_eq_some_iff] at h; obtain ⟨v, hv, rfl⟩ := h; exact ⟨_, rfl, by simp [*]⟩)
    | (simp only [Option.bind_eq_some_iff] at h; obtain ⟨p, hp, q, hq, h⟩ := h; split at h
       · rename_i hc; cases h; exact ⟨_, rfl, by simp [*]⟩
       · cases h)
end
end Go.Lw
end

/-! What any operation does elsewhere, where what it looks at is the same. -/
section
namespace Go.Lw
open Go Go.RowKit
section
variable {s s' s2 : St} {cf : CallF}
def Local (cf : CallF) (i : IOp) : Prop :=
  ∀ s s2 : St, (∀ t ∈ rd i, get s2.env t = get s.env t) → HOk (cls i) s s2 → ∀ s', opStep cf s i = some s' →
    ∃ s2', opStep cf s2 i = some s2' ∧ EnvR (wr i) s'.env s2.env s2'.env ∧ HRes (cls i) s s' s2 s2'
theorem EnvR.congr {W W2 : List Nat} {e' e2 e2' : List (Nat × PV)} (h : EnvR W e' e2 e2') (hw : ∀ t, t ∈ W ↔ t ∈ W2) : EnvR W2 e' e2 e2' := fun t => by
  rw [h t]
  by_cases ht : t ∈ W
  · simp [ht, (hw t).1 ht]
  · have : t ∉ W2 := fun h2 => ht ((hw t).2 h2)
    simp [ht, this]
theorem EnvR.put1 {e e2 : List (Nat × PV)} (d : Nat) (v : PV) : EnvR [d] (Lw.put e d v) e2 (Lw.put e2 d v) := EnvR.put (by simp)
theorem EnvR.thenPut {W : List Nat} {e' e2 e2' : List (Nat × PV)} (h : EnvR W e' e2 e2') (d : Nat) (v : PV) : EnvR (W ++ [d]) (Lw.put e' d v) e2 (Lw.put e2' d v) :=
  h.trans (EnvR.put1 d v) (fun t ht => by rw [get_put]; simp at ht; simp [Ne.symm ht])
theorem Fills.local {i : IOp} {d : Nat} (h : Fills cf i d) (hc : cls i = 0) (hw : wr i = [d]) : Local cf i := by
  intro s s2 ha _ s' hs
  obtain ⟨v, rfl, h2⟩ := h s s2 ha s' hs
  refine ⟨_, h2, by rw [hw]; exact EnvR.put1 d v, ?_⟩
  rw [hc]; exact ⟨rfl, rfl, rfl, rfl⟩
theorem local_tk {d n : Nat} : Local cf (.tk d n) := by
  intro s s2 ha _ s' h
  simp only [opStep, Option.map_eq_some_iff] at h ⊢
  obtain ⟨v, hv, rfl⟩ := h
  refine ⟨_, ⟨v, by rw [ha n (by simp [rd])]; exact hv, rfl⟩, ?_, rfl, rfl, rfl, rfl⟩
  exact ((EnvR.put1 (e := s.env) (e2 := s2.env) n (degr v)).thenPut d v).congr (fun t => by simp [wr, opDst]; exact or_comm)
theorem local_box {d : Nat} {g tk : Bool} {x : IX} : Local cf (.box d g tk x) := by
  intro s s2 ha hh s' h
  obtain ⟨e2, l2, g2⟩ := s2
  have hh' : l2 = s.lh ∧ g2 = s.gh := by cases g <;> exact hh
  obtain ⟨rfl, rfl⟩ := hh'
  simp only [opStep] at h ⊢
  split at h
  · rename_i htk
    subst htk
    simp only [Option.bind_eq_some_iff, Prod.exists] at h
    obtain ⟨v, e1, hv, h⟩ := h
    split at h
    · rename_i hok
      cases h
      obtain ⟨e3, t1, t2⟩ := takeX_cong (e2 := e2) (fun t ht => ha t (by simp [rd, ht])) hv
      refine ⟨putNew ⟨e3, s.lh, s.gh⟩ d g v.cells, by simp [t1, hok], ?_, ?_⟩
      · cases g
        · exact (t2.thenPut d _).congr (fun t => by simp [wr, opDst]; exact or_comm)
        · exact (t2.thenPut d _).congr (fun t => by simp [wr, opDst]; exact or_comm)
      · cases g
        · exact ⟨⟨v.cells, rfl⟩, rfl, rfl, rfl⟩
        · exact ⟨rfl, rfl⟩
    · cases h
  · rename_i htk
    simp only [Bool.not_eq_true] at htk
    subst htk
    simp only [Option.bind_eq_some_iff] at h
    obtain ⟨v, hv, h⟩ := h
    split at h
    · rename_i hok
      cases h
      have h1 : evalX e2 x = some v := by rw [← hv]; exact evalX_cong (fun t ht => ha t (by simp [rd, ht]))
      refine ⟨putNew ⟨e2, s.lh, s.gh⟩ d g v.cells, by simp [h1, hok], ?_, ?_⟩
      · cases g
        · exact (EnvR.put1 d _).congr (fun t => by simp [wr, opDst])
        · exact (EnvR.put1 d _).congr (fun t => by simp [wr, opDst])
      · cases g
        · exact ⟨⟨v.cells, rfl⟩, rfl, rfl, rfl⟩
        · exact ⟨rfl, rfl⟩
    · cases h
theorem local_alloc {d : Nat} {g : Bool} {z : PV} : Local cf (.alloc d g z) := by
  intro s s2 ha hh s' h
  obtain ⟨e2, l2, g2⟩ := s2
  have hh' : l2 = s.lh ∧ g2 = s.gh := by cases g <;> exact hh
  obtain ⟨rfl, rfl⟩ := hh'
  simp only [opStep] at h ⊢
  split at h
  · rename_i hok
    cases h
    refine ⟨putNew ⟨e2, s.lh, s.gh⟩ d g z.cells, by rw [if_pos hok], ?_, ?_⟩
    · cases g
      · exact (EnvR.put1 d _).congr (fun t => by simp [wr, opDst])
      · exact (EnvR.put1 d _).congr (fun t => by simp [wr, opDst])
    · cases g
      · exact ⟨⟨z.cells, rfl⟩, rfl, rfl, rfl⟩
      · exact ⟨rfl, rfl⟩
  · cases h
theorem local_buildT {d : Nat} {z : List PV} {ps : List (Nat × Nat × IX)} : Local cf (.buildT d z ps) := by
  intro s s2 ha _ s' h
  simp only [opStep, Option.bind_eq_some_iff, Prod.exists] at h
  obtain ⟨vs, e1, hv, h⟩ := h
  split at h
  · rename_i hc
    simp only [Option.map_eq_some_iff] at h
    obtain ⟨cs, hcs, rfl⟩ := h
    obtain ⟨e3, t1, t2, _⟩ := takePs_cong (e2 := s2.env) (fun t ht => ha t (by simp [rd, ht])) hv
    refine ⟨⟨Lw.put e3 d (.agg cs), s2.lh, s2.gh⟩, ?_, ?_, rfl, rfl, rfl, rfl⟩
    · simp only [opStep, t1, Option.bind_some]
      rw [if_pos hc, hcs]; rfl
    · exact (t2.thenPut d _).congr (fun t => by simp [wr, opDst]; exact or_comm)
  · cases h
theorem cellsAt_ext {g : Bool} {b : Nat} {cs : List PV} (hh : HOk 2 s s2) (h : s.cellsAt g b = some cs) : ∃ cs2, s2.cellsAt g b = some cs2 ∧ cs2.map degr1 = cs.map degr1 := by
  unfold St.cellsAt at *
  split at h
  · rename_i hg
    simp only [hg, if_true]
    split at h
    · rename_i cs' hc
      cases h
      obtain ⟨o2, h1, h2⟩ := hh.2 b _ hc
      cases o2 with
      | cells cs2 =>
        simp only [GObj.deg, GObj.cells.injEq] at h2
        exact ⟨cs2, by rw [h1], h2⟩
      | map es => simp [GObj.deg] at h2
      | stk g xs => simp [GObj.deg] at h2
    · cases h
  · rename_i hg
    simp only [hg, Bool.false_eq_true, if_false]
    exact hh.1 b cs h
theorem map_ext {b : Nat} {es : List (PV × PV)} (hh : HOk 2 s s2) (h : s.gh[b]? = some (.map es)) : s2.gh[b]? = some (.map es) := by
  obtain ⟨o2, h1, h2⟩ := hh.2 b _ h
  cases o2 with
  | cells cs => simp [GObj.deg] at h2
  | map es2 => simp only [GObj.deg, GObj.map.injEq] at h2; rw [h1, h2]
  | stk g xs => simp [GObj.deg] at h2
theorem degr_degr1 (v : PV) : degr (degr1 v) = degr v := by cases v <;> rfl
theorem grab_deg {agg : Bool} {k off : Nat} {cs cs2 : List PV} {v : PV} (he : cs2.map degr1 = cs.map degr1) (h : grab agg k off cs = some v) : ∃ v2, grab agg k off cs2 = some v2 ∧ degr v2 = degr v := by
  have hl : cs2.length = cs.length := by rw [← List.length_map (f := degr1) (as := cs2), he, List.length_map]
  unfold grab at h ⊢
  cases agg with
  | true =>
    simp only [if_true] at h ⊢
    split at h
    · rename_i hk
      cases h
      rw [hl, if_pos hk]
      refine ⟨_, rfl, ?_⟩
      simp only [degr, PV.agg.injEq]
      rw [List.map_take, List.map_drop, he, List.map_take, List.map_drop]
    · cases h
  | false =>
    simp only [Bool.false_eq_true, if_false] at h ⊢
    have h1 : (cs2.map degr1)[off]? = (cs.map degr1)[off]? := by rw [he]
    rw [List.getElem?_map, List.getElem?_map, h] at h1
    simp only [Option.map_some, Option.map_eq_some_iff] at h1
    obtain ⟨v2, h2, h3⟩ := h1
    exact ⟨v2, h2, by rw [← degr_degr1 v2, h3, degr_degr1]⟩
theorem local_load {d : Nat} {agg : Bool} {k : Nat} {x : IX} : Local cf (.load d agg k x) := by
  intro s s2 ha hh s' h
  have h1 : evalX s2.env x = evalX s.env x := evalX_cong (fun t ht => ha t (by simp [rd, ht]))
  simp only [opStep, h1] at h ⊢
  have fin : ∀ v, s' = s.put d v → ∀ o, o = some (s2.put d v) → ∃ s2', o = some s2' ∧ EnvR (wr (.load d agg k x)) s'.env s2.env s2'.env ∧ HRes 2 s s' s2 s2' := by
    rintro v rfl o rfl
    exact ⟨_, rfl, (EnvR.put1 d v).congr (fun t => by simp [wr, opDst]), rfl, rfl, rfl, rfl⟩
  split at h
  · rename_i g b off hp
    simp only [Option.bind_eq_some_iff, Option.map_eq_some_iff] at h
    obtain ⟨cs, hc, v, hv, rfl⟩ := h
    obtain ⟨cs2, hc2, he⟩ := cellsAt_ext hh hc
    obtain ⟨v2, hv2, he2⟩ := grab_deg he hv
    exact fin _ rfl _ (by simp [hc2, hv2, he2])
  · rename_i e off hp
    simp only [Option.map_eq_some_iff] at h
    obtain ⟨v, hv, rfl⟩ := h
    exact fin _ rfl _ (by simp [hv])
  · cases h
theorem local_loadN {d : Nat} {agg : Bool} {k : Nat} {x : IX} {n : Nat} : Local cf (.loadN d agg k x n) := by
  intro s s2 ha hh s' h
  have h1 : evalX s2.env x = evalX s.env x := evalX_cong (fun t ht => ha t (by simp [rd, ht]))
  have h2 : get s2.env n = get s.env n := ha n (by simp [rd])
  simp only [opStep, h1, h2] at h ⊢
  split at h
  · rename_i g b off g' b' o' hp hq
    split at h
    · rename_i hne
      simp only [Option.bind_eq_some_iff, Option.map_eq_some_iff] at h
      obtain ⟨cs, hc, v, hv, rfl⟩ := h
      obtain ⟨cs2, hc2, he⟩ := cellsAt_ext hh hc
      obtain ⟨v2, hv2, he2⟩ := grab_deg he hv
      refine ⟨s2.put d (degr v), by simp [hne, hc2, hv2, he2], (EnvR.put1 d _).congr (fun t => by simp [wr, opDst]), rfl, rfl, rfl, rfl⟩
    · cases h
  · cases h
theorem local_lookup {d kn : Nat} {m k : IX} {ok : Bool} {zero : PV} : Local cf (.lookup d kn m k ok zero) := by
  intro s s2 ha hh s' h
  have h1 : evalX s2.env m = evalX s.env m := evalX_cong (fun t ht => ha t (by simp [rd, ht]))
  have h2 : evalX s2.env k = evalX s.env k := evalX_cong (fun t ht => ha t (by simp [rd, ht]))
  simp only [opStep, h1, h2] at h ⊢
  have fin : ∀ v, s' = s.put d v → ∀ o, o = some (s2.put d v) → ∃ s2', o = some s2' ∧ EnvR (wr (.lookup d kn m k ok zero)) s'.env s2.env s2'.env ∧ HRes 2 s s' s2 s2' := by
    rintro v rfl o rfl
    exact ⟨_, rfl, (EnvR.put1 d v).congr (fun t => by simp [wr, opDst]), rfl, rfl, rfl, rfl⟩
  split at h
  · rename_i b kv hp hkv
    split at h
    · rename_i es hes
      have hes2 := map_ext hh hes
      split at h
      · cases h
      · rename_i hki
        split at h
        · rename_i v hf
          cases h
          exact fin _ rfl _ (by simp [hes2, hki, hf])
        · rename_i hf
          cases h
          exact fin _ rfl _ (by simp [hes2, hki, hf])
        · cases h
    · cases h
  · cases h
theorem local_len {d kd : Nat} {x : IX} : Local cf (.len d kd x) := by
  intro s s2 ha hh s' h
  have h1 : evalX s2.env x = evalX s.env x := evalX_cong (fun t ht => ha t (by simp [rd, ht]))
  simp only [opStep, h1] at h ⊢
  have fin : ∀ v, s' = s.put d v → ∀ o, o = some (s2.put d v) → ∃ s2', o = some s2' ∧ EnvR (wr (.len d kd x)) s'.env s2.env s2'.env ∧ HRes (if kd = 2 then 2 else 0) s s' s2 s2' := by
    rintro v rfl o rfl
    refine ⟨_, rfl, (EnvR.put1 d v).congr (fun t => by simp [wr, opDst]), ?_⟩
    split <;> exact ⟨rfl, rfl, rfl, rfl⟩
  split at h
  · rename_i hp; cases h; exact fin _ rfl _ (by simp)
  · rename_i hp; cases h; exact fin _ rfl _ (by simp)
  · rename_i hp; cases h; exact fin _ rfl _ (by simp)
  · rename_i hp; cases h; exact fin _ rfl _ (by simp)
  · rename_i hp; cases h; exact fin _ rfl _ (by simp)
  · rename_i hp; cases h; exact fin _ rfl _ (by simp)
  · rename_i b hp
    split at h
    · rename_i es hes
      cases h
      exact fin _ rfl _ (by simp [map_ext (show HOk 2 s s2 from hh) hes])
    · cases h
  · cases h
theorem local_mkmap {d : Nat} : Local cf (.mkmap d) := by
  intro s s2 ha hh s' h
  obtain ⟨e2, l2, g2⟩ := s2
  obtain ⟨rfl, rfl⟩ := hh
  simp only [opStep, Option.some.injEq] at h
  subst h
  exact ⟨_, rfl, (EnvR.put1 d _).congr (fun t => by simp [wr, opDst]), rfl, ⟨_, rfl⟩, rfl, rfl⟩
theorem local_buildSlK {d : Nat} {els : List IX} : Local cf (.buildSlK d els) := by
  intro s s2 ha hh s' h
  obtain ⟨e2, l2, g2⟩ := s2
  obtain ⟨rfl, rfl⟩ := hh
  have h1 : evalXs e2 els = evalXs s.env els := evalXs_cong (fun t ht => ha t (by simp [rd, ht]))
  simp only [opStep, h1, Option.bind_eq_some_iff] at h ⊢
  obtain ⟨vs, hvs, h⟩ := h
  split at h
  · rename_i hc
    cases h
    refine ⟨(⟨e2, s.lh, s.gh ++ [.stk 0 vs]⟩ : St).put d (.stk s.gh.length 0 vs.length), ⟨vs, hvs, by rw [if_pos hc]⟩, ?_, rfl, ⟨_, rfl⟩, rfl, rfl⟩
    exact (EnvR.put1 d (.stk s.gh.length 0 vs.length)).congr (fun t => by simp [wr, opDst])
  · cases h
theorem set_stk {gh : List GObj} {b g g2 : Nat} {xs ys : List PV} (h : gh[b]? = some (.stk g xs)) : (gh.set b (.stk g2 ys)).map GObj.deg = gh.map GObj.deg := by
  apply List.ext_getElem?
  intro j
  rw [List.getElem?_map, List.getElem?_map, List.getElem?_set]
  by_cases hj : b = j
  · subst hj
    have hl := (List.getElem?_eq_some_iff.1 h).1
    rw [if_pos rfl, if_pos hl, h]; rfl
  · simp [hj]
theorem local_appendK {d bytes : Nat} {sx x : IX} : Local cf (.appendK d bytes sx x) := by
  intro s s2 ha hh s' h
  obtain ⟨e2, l2, g2⟩ := s2
  obtain ⟨rfl, rfl⟩ := hh
  have h1 : evalX e2 x = evalX s.env x := evalX_cong (fun t ht => ha t (by simp [rd, ht]))
  have h2 : evalX e2 sx = evalX s.env sx := evalX_cong (fun t ht => ha t (by simp [rd, ht]))
  simp only [opStep, h1, h2, Option.bind_eq_some_iff] at h ⊢
  obtain ⟨xv, hxv, ys, hys, h⟩ := h
  split at h
  · rename_i b gen n hsv
    split at h
    · rename_i g xs hg
      split at h
      · rename_i hc
        cases h
        refine ⟨(⟨e2, s.lh, s.gh.set b (.stk (g + 1) (xs.take n ++ ys))⟩ : St).put d (.stk b (g + 1) (n + ys.length)), ⟨xv, hxv, ys, hys, by rw [if_pos hc]⟩, (EnvR.put1 d (.stk b (g + 1) (n + ys.length))).congr (fun t => by simp [wr, opDst]), rfl, set_stk hg, rfl, rfl⟩
      · cases h
    · cases h
  · cases h
theorem same_fwd' {α β : Type} (f : α → β) {l l' : List α} (h : l'.map f = l.map f) {b : Nat} {x : α} (hx : l[b]? = some x) : ∃ y, l'[b]? = some y ∧ f y = f x := by
  have h1 : (l'.map f)[b]? = (l.map f)[b]? := by rw [h]
  rw [List.getElem?_map, List.getElem?_map, hx] at h1
  simpa using h1
theorem local_appendN {d bytes : Nat} {sx x : IX} : Local cf (.appendN d bytes sx x) := by
  intro s s2 ha hh s' h
  obtain ⟨e2, l2, g2⟩ := s2
  obtain ⟨rfl, rfl⟩ := hh
  have h1 : evalX e2 x = evalX s.env x := evalX_cong (fun t ht => ha t (by simp [rd, ht]))
  have h2 : evalX e2 sx = evalX s.env sx := evalX_cong (fun t ht => ha t (by simp [rd, ht]))
  simp only [opStep, h1, h2, Option.bind_eq_some_iff] at h ⊢
  obtain ⟨xv, hxv, ys, hys, h⟩ := h
  split at h
  · rename_i b gen n hsv
    split at h
    · rename_i g xs hg
      split at h
      · rename_i hc
        cases h
        exact ⟨(⟨e2, s.lh, s.gh.set b (.stk (g + 1) (xs.take n ++ ys))⟩ : St).put d (.stk b (g + 1) (n + ys.length)), ⟨xv, hxv, ys, hys, by rw [if_pos hc]⟩, (EnvR.put1 d (.stk b (g + 1) (n + ys.length))).congr (fun t => by simp [wr, opDst]), rfl, fun b2 o h2 => same_fwd' _ (set_stk hg) h2, rfl, rfl⟩
      · cases h
    · cases h
  · rename_i hsv
    split at h
    · rename_i hc
      cases h
      exact ⟨(⟨e2, s.lh, s.gh ++ [.stk 0 ys]⟩ : St).put d (.stk s.gh.length 0 ys.length), ⟨xv, hxv, ys, hys, by rw [if_pos hc]⟩, (EnvR.put1 d (.stk s.gh.length 0 ys.length)).congr (fun t => by simp [wr, opDst]), rfl, fun b2 o h2 => ⟨o, by show (s.gh ++ [_])[b2]? = _; rw [List.getElem?_append_left (List.getElem?_eq_some_iff.1 h2).1]; exact h2, rfl⟩, rfl, rfl⟩
    · cases h
  · cases h
theorem local_loadK {d : Nat} {x : IX} : Local cf (.loadK d x) := by
  intro s s2 ha hh s' h
  obtain ⟨e2, l2, g2⟩ := s2
  obtain rfl : g2 = s.gh := hh
  have h1 : evalX e2 x = evalX s.env x := evalX_cong (fun t ht => ha t (by simp [rd, ht]))
  simp only [opStep, h1] at h ⊢
  split at h
  · simp only [Option.map_eq_some_iff] at h
    obtain ⟨v, hv, rfl⟩ := h
    exact ⟨(⟨e2, l2, s.gh⟩ : St).put d v, by simp [hv], (EnvR.put1 d v).congr (fun t => by simp [wr, opDst]), rfl, rfl, rfl, rfl⟩
  · cases h
theorem local_loadH {d : Nat} {x : IX} : Local cf (.loadH d x) := by
  intro s s2 ha hh s' h
  obtain ⟨e2, l2, g2⟩ := s2
  have hl : l2 = s.lh := hh
  subst hl
  have h1 : evalX e2 x = evalX s.env x := evalX_cong (fun t ht => ha t (by simp [rd, ht]))
  simp only [opStep, h1] at h ⊢
  split at h
  · simp only [Option.bind_eq_some_iff, Option.map_eq_some_iff] at h
    obtain ⟨cs, hc, v, hv, rfl⟩ := h
    exact ⟨(⟨e2, s.lh, g2⟩ : St).put d (degr v), by simp [hc, hv], (EnvR.put1 d (degr v)).congr (fun t => by simp [wr, opDst]), rfl, rfl, rfl, rfl⟩
  · cases h
theorem local_mksl {d z bytes : Nat} {g : Bool} {zero : PV} {l : IX} : Local cf (.mksl d g z bytes zero l) := by
  cases g with
  | false => exact fills_mksl.local rfl rfl
  | true =>
    intro s s2 ha hh s' h
    obtain ⟨e2, l2, g2⟩ := s2
    obtain ⟨rfl, rfl⟩ := hh
    have h1 : evalX e2 l = evalX s.env l := evalX_cong (fun t ht => ha t (by simp [rd, ht]))
    simp only [opStep, h1] at h ⊢
    split at h
    · rename_i k n hp
      split at h
      · rename_i hc
        cases h
        refine ⟨_, by rw [if_pos hc], ?_, ?_⟩
        · exact (EnvR.put1 d _).congr (fun t => by simp [wr, opDst])
        · exact ⟨rfl, rfl⟩
      · cases h
    · cases h
theorem setCells_env (s : St) (g : Bool) (b : Nat) (cs : List PV) : (s.setCells g b cs).env = s.env := by cases g <;> rfl
theorem splice_deg {cs : List PV} {off : Nat} {v : PV} (h : cs[off]? = some v) : (spliceAt cs off [degr1 v]).map degr1 = cs.map degr1 := by
  have hlt := (List.getElem?_eq_some_iff.1 h).1
  apply List.ext_getElem?
  intro i
  rw [List.getElem?_map, List.getElem?_map, spliceAt, splice_get _ _ _ _ (by simp; omega)]
  by_cases h1 : i < off
  · rw [if_pos h1]
  · rw [if_neg h1]
    by_cases h2 : i = off
    · subst h2
      have hd : degr1 (degr1 v) = degr1 v := by cases v <;> rfl
      simp [h, hd]
    · rw [if_neg (by simp; omega)]
theorem set_map {α β : Type} (f : α → β) {l : List α} {b : Nat} {x y : α} (h : l[b]? = some x) (he : f y = f x) : (l.set b y).map f = l.map f := by
  apply List.ext_getElem?
  intro k
  rw [List.getElem?_map, List.getElem?_map, List.getElem?_set]
  by_cases hk : b = k
  · subst hk
    obtain ⟨this, rfl⟩ := List.getElem?_eq_some_iff.1 h
    simp [this, he]
  · simp [hk]
theorem local_loadT {d : Nat} {x : IX} : Local cf (.loadT d x) := by
  intro s s2 ha hh s' h
  obtain ⟨e2, l2, g2⟩ := s2
  obtain ⟨rfl, rfl⟩ := hh
  have h1 : evalX e2 x = evalX s.env x := evalX_cong (fun t ht => ha t (by simp [rd, ht]))
  simp only [opStep, h1] at h ⊢
  split at h
  · rename_i g b off hp
    simp only [Option.bind_eq_some_iff, Option.map_eq_some_iff] at h
    obtain ⟨cs, hc, v, hv, rfl⟩ := h
    have hc2 : St.cellsAt ⟨e2, s.lh, s.gh⟩ g b = some cs := hc
    refine ⟨(St.setCells ⟨e2, s.lh, s.gh⟩ g b (spliceAt cs off [degr1 v])).put d v, by simp [hc2, hv], ?_, ?_⟩
    · simp only [St.put, setCells_env]
      exact (EnvR.put1 d v).congr (fun t => by simp [wr, opDst])
    · cases g with
      | false => exact ⟨set_map (List.map degr1) (show s.lh[b]? = some cs from hc) (splice_deg hv), rfl, rfl, rfl⟩
      | true =>
        have hg : s.gh[b]? = some (.cells cs) := by
          simp only [St.cellsAt, if_true] at hc
          split at hc
          · rename_i hx; cases hc; exact hx
          · cases hc
        exact ⟨rfl, set_map GObj.deg hg (by simp [GObj.deg, splice_deg hv]), rfl, rfl⟩
  · cases h
theorem local_loadL {d : Nat} {x : IX} : Local cf (.loadL d x) := by
  intro s s2 ha hh s' h
  obtain ⟨e2, l2, g2⟩ := s2
  obtain ⟨rfl, rfl⟩ := hh
  have h1 : evalX e2 x = evalX s.env x := evalX_cong (fun t ht => ha t (by simp [rd, ht]))
  simp only [opStep, h1] at h ⊢
  split at h
  · rename_i b off hp
    simp only [Option.bind_eq_some_iff, Option.map_eq_some_iff] at h
    obtain ⟨cs, hc, v, hv, rfl⟩ := h
    refine ⟨(⟨e2, s.lh.set b (spliceAt cs off [degr1 v]), s.gh⟩ : St).put d v, by simp [hc, hv], (EnvR.put1 d v).congr (fun t => by simp [wr, opDst]), set_map (List.map degr1) hc (splice_deg hv), rfl, rfl, rfl⟩
  · cases h
theorem local_store {tk : Bool} {k : Nat} {x y : IX} : Local cf (.store tk k x y) := by
  intro s s2 ha hh s' h
  obtain ⟨e2, l2, g2⟩ := s2
  obtain ⟨rfl, rfl⟩ := hh
  have h1 : evalX e2 x = evalX s.env x := evalX_cong (fun t ht => ha t (by simp [rd, ht]))
  have h2 : evalX e2 y = evalX s.env y := evalX_cong (fun t ht => ha t (by simp [rd, ht]))
  simp only [opStep, h1, h2] at h ⊢
  split at h
  · rename_i g b off hp
    split at h
    · rename_i htk
      subst htk
      simp only [Option.bind_eq_some_iff, Prod.exists] at h
      obtain ⟨v, e1, hv, cs, hc, h⟩ := h
      split at h
      · rename_i hk
        cases h
        obtain ⟨e3, t1, t2⟩ := takeX_cong (e2 := e2) (fun t ht => ha t (by simp [rd, ht])) hv
        have hc2 : St.cellsAt ⟨e3, s.lh, s.gh⟩ g b = some cs := hc
        refine ⟨St.setCells ⟨e3, s.lh, s.gh⟩ g b (spliceAt cs off v.cells), by simp [t1, hc2, hk], ?_, ?_⟩
        · simp only [setCells_env]
          exact t2.congr (fun t => by simp [wr, opDst])
        · cases g <;> exact ⟨rfl, rfl⟩
      · cases h
    · rename_i htk
      simp only [Bool.not_eq_true] at htk
      subst htk
      simp only [Option.bind_eq_some_iff] at h
      obtain ⟨v, hv, cs, hc, h⟩ := h
      split at h
      · rename_i hk
        cases h
        have hc2 : St.cellsAt ⟨e2, s.lh, s.gh⟩ g b = some cs := hc
        refine ⟨St.setCells ⟨e2, s.lh, s.gh⟩ g b (spliceAt cs off v.cells), by simp [hv, hc2, hk], ?_, ?_⟩
        · simp only [setCells_env]
          exact EnvR.refl (fun t => by simp [wr, opDst])
        · cases g <;> exact ⟨rfl, rfl⟩
      · cases h
  · cases h
theorem local_mupd {kn : Nat} {m k x : IX} : Local cf (.mupd kn m k x) := by
  intro s s2 ha hh s' h
  obtain ⟨e2, l2, g2⟩ := s2
  obtain ⟨rfl, rfl⟩ := hh
  have h1 : evalX e2 m = evalX s.env m := evalX_cong (fun t ht => ha t (by simp [rd, ht]))
  have h2 : evalX e2 k = evalX s.env k := evalX_cong (fun t ht => ha t (by simp [rd, ht]))
  have h3 : evalX e2 x = evalX s.env x := evalX_cong (fun t ht => ha t (by simp [rd, ht]))
  simp only [opStep, h1, h2, h3] at h ⊢
  split at h
  · rename_i b kv v hp hkv hv
    split at h
    · rename_i es hes
      split at h
      · rename_i hc
        simp only [Option.map_eq_some_iff] at h
        obtain ⟨es', hs, rfl⟩ := h
        refine ⟨⟨e2, s.lh, s.gh.set b (.map es')⟩, ?_, EnvR.refl (fun t => by simp [wr, opDst]), rfl, rfl⟩
        rw [if_pos hc, hs]; rfl
      · cases h
    · cases h
  · cases h
theorem putO_envR {e e2 : List (Nat × PV)} (d : Option Nat) (v : PV) : EnvR d.toList (putO e d v) e2 (putO e2 d v) := by
  cases d with
  | none => exact EnvR.refl (by simp)
  | some d => exact EnvR.put (by simp)
theorem doCall_local {d : Option Nat} {q : Bool} {f : Nat} {vs : List PV} (hh : HOk (if q then 1 else 5) s s2) (h : doCall cf s d q f vs = some s') :
    ∃ s2', doCall cf s2 d q f vs = some s2' ∧ EnvR d.toList s'.env s2.env s2'.env ∧ HRes (if q then 1 else 5) s s' s2 s2' := by
  have hgh : s2.gh = s.gh := by
    cases q
    · exact hh.2
    · exact hh
  unfold doCall at h ⊢
  split at h
  · rename_i hok
    rw [if_pos hok, hgh]
    split at h
    · rename_i r gh' hc
      split at h
      · rename_i hq
        subst hq
        split at h
        · rename_i he
          cases h
          refine ⟨⟨putO s2.env d r, s2.lh, s2.gh⟩, by simp [he, hgh], putO_envR d r, rfl, rfl, rfl, rfl⟩
        · cases h
      · rename_i hq
        simp only [Bool.not_eq_true] at hq
        subst hq
        cases h
        exact ⟨⟨putO s2.env d r, s2.lh, gh'⟩, by simp, putO_envR d r, hh.1, rfl⟩
    · cases h
  · cases h
theorem local_call {d : Option Nat} {q : Bool} {f : Nat} {xs : List IX} : Local cf (.call d q f xs) := by
  intro s s2 ha hh s' h
  have h1 : evalXs s2.env xs = evalXs s.env xs := evalXs_cong (fun t ht => ha t (by simp [rd, ht]))
  simp only [opStep, h1, Option.bind_eq_some_iff] at h ⊢
  obtain ⟨vs, hv, h⟩ := h
  obtain ⟨s2', c1, c2, c3⟩ := doCall_local (s2 := s2) hh h
  exact ⟨s2', ⟨vs, hv, c1⟩, by simpa [wr, opDst] using c2, c3⟩
theorem local_callv {d : Option Nat} {q : Bool} {f : IX} {xs : List IX} : Local cf (.callv d q f xs) := by
  intro s s2 ha hh s' h
  have h0 : evalX s2.env f = evalX s.env f := evalX_cong (fun t ht => ha t (by simp [rd, ht]))
  have h1 : evalXs s2.env xs = evalXs s.env xs := evalXs_cong (fun t ht => ha t (by simp [rd, ht]))
  simp only [opStep, h0, h1] at h ⊢
  split at h
  · rename_i f caps hp
    simp only [Option.bind_eq_some_iff] at h
    obtain ⟨vs, hv, h⟩ := h
    obtain ⟨s2', c1, c2, c3⟩ := doCall_local (s2 := s2) hh h
    exact ⟨s2', by simp [hv, c1], by simpa [wr, opDst] using c2, c3⟩
  · rename_i f caps hp
    simp only [Option.bind_eq_some_iff] at h
    obtain ⟨vs, hv, h⟩ := h
    obtain ⟨s2', c1, c2, c3⟩ := doCall_local (s2 := s2) hh h
    exact ⟨s2', by simp [hv, c1], by simpa [wr, opDst] using c2, c3⟩
  · cases h
theorem local_storeK {y x : IX} : Local cf (.storeK y x) := by
  intro s s2 ha hh s' h
  obtain ⟨e2, l2, g2⟩ := s2
  obtain ⟨rfl, rfl⟩ := hh
  have h1 : evalX e2 y = evalX s.env y := evalX_cong (fun t ht => ha t (by simp [rd, ht]))
  have h2 : evalX e2 x = evalX s.env x := evalX_cong (fun t ht => ha t (by simp [rd, ht]))
  simp only [opStep, h1, h2] at h ⊢
  split at h
  · rename_i b gen i v _ _
    split at h
    · rename_i g xs hg
      split at h
      · rename_i hc
        cases h
        exact ⟨⟨e2, s.lh, s.gh.set b (.stk g (xs.set i v))⟩, by rw [if_pos hc], EnvR.refl (fun t => by simp [wr, opDst]), rfl, rfl⟩
      · cases h
    · cases h
  · cases h
theorem local_clearK {x : IX} : Local cf (.clearK x) := by
  intro s s2 ha hh s' h
  obtain ⟨e2, l2, g2⟩ := s2
  obtain ⟨rfl, rfl⟩ := hh
  have h1 : evalX e2 x = evalX s.env x := evalX_cong (fun t ht => ha t (by simp [rd, ht]))
  simp only [opStep, h1] at h ⊢
  split at h
  · rename_i b gen off n _
    split at h
    · rename_i g xs hg
      split at h
      · rename_i hc
        cases h
        exact ⟨⟨e2, s.lh, s.gh.set b (.stk g (xs.take off ++ List.replicate n (.int .i64 0) ++ xs.drop (off + n)))⟩, by rw [if_pos hc], EnvR.refl (fun t => by simp [wr, opDst]), rfl, rfl⟩
      · cases h
    · cases h
  · cases h
theorem local_callF {d : Option Nat} {f : Nat} {xs : List IX} : Local cf (.callF d f xs) := by
  intro s s2 ha hh s' h
  have h1 : evalXs s2.env xs = evalXs s.env xs := evalXs_cong (fun t ht => ha t (by simp [rd, ht]))
  simp only [opStep, h1, Option.bind_eq_some_iff] at h ⊢
  obtain ⟨vs, hv, h⟩ := h
  unfold doFree at h
  split at h
  · rename_i hok
    split at h
    · rename_i r hc
      split at h
      · rename_i hr
        cases h
        refine ⟨⟨putO s2.env d r, s2.lh, s2.gh⟩, ⟨vs, hv, ?_⟩, by simpa [wr, opDst] using putO_envR (e := s.env) (e2 := s2.env) d r, rfl, rfl, rfl, rfl⟩
        unfold doFree
        rw [if_pos hok, hc]
        simp [hr]
      · cases h
    · cases h
  · cases h
theorem elP_local {gh gh2 : List GObj} (h : ∀ (b : Nat) (o : GObj), gh[b]? = some o → ∃ o2, gh2[b]? = some o2 ∧ o2.deg = o.deg) {v u : PV} (hv : elP gh v = some u) : elP gh2 v = some u := by
  unfold elP at *
  split at hv
  · rename_i b off
    split at hv
    · rename_i cs hc
      obtain ⟨o2, h1, h2⟩ := h b _ hc
      cases o2 with
      | map es => simp [GObj.deg] at h2
      | stk g xs => simp [GObj.deg] at h2
      | cells cs2 =>
        simp only [GObj.deg, GObj.cells.injEq] at h2
        simp only [h1, h2]
        exact hv
    · cases hv
  · exact hv
theorem elPs_local {gh gh2 : List GObj} (h : ∀ (b : Nat) (o : GObj), gh[b]? = some o → ∃ o2, gh2[b]? = some o2 ∧ o2.deg = o.deg) : ∀ {vs us : List PV}, elPs gh vs = some us → elPs gh2 vs = some us
  | [], us, hv => hv
  | v :: l, us, hv => by
    simp only [elPs, Option.bind_eq_some_iff, Option.map_eq_some_iff] at hv ⊢
    obtain ⟨u, h1, us', h2, h3⟩ := hv
    exact ⟨u, elP_local h h1, us', elPs_local h h2, h3⟩
theorem local_callE {d : Option Nat} {f : IX} {xs : List IX} : Local cf (.callE d f xs) := by
  intro s s2 ha hh s' h
  have h0 : evalX s2.env f = evalX s.env f := evalX_cong (fun t ht => ha t (by simp [rd, ht]))
  have h1 : evalXs s2.env xs = evalXs s.env xs := evalXs_cong (fun t ht => ha t (by simp [rd, ht]))
  simp only [opStep, h0, h1] at h ⊢
  split at h
  · rename_i f caps hp
    simp only [Option.bind_eq_some_iff] at h ⊢
    obtain ⟨vs, hv, h⟩ := h
    unfold doEl at h
    simp only [Option.bind_eq_some_iff] at h
    obtain ⟨us, hu, h⟩ := h
    have hu2 : elPs s2.gh (vs ++ caps) = some us := elPs_local (show HOk 2 s s2 from hh).2 hu
    split at h
    · rename_i hok
      split at h
      · rename_i r hc
        split at h
        · rename_i hr
          cases h
          refine ⟨⟨putO s2.env d r, s2.lh, s2.gh⟩, ⟨vs, hv, ?_⟩, by simpa [wr, opDst] using putO_envR (e := s.env) (e2 := s2.env) d r, rfl, rfl, rfl, rfl⟩
          unfold doEl
          simp only [hu2, Option.bind_some]
          rw [if_pos hok, hc]
          simp [hr]
        · cases h
      · cases h
    · cases h
  · cases h
theorem local_append {d z bytes : Nat} {sx x : IX} : Local cf (.append d z bytes sx x) := by
  intro s s2 ha hh s' h
  have h1 : evalX s2.env x = evalX s.env x := evalX_cong (fun t ht => ha t (by simp [rd, ht]))
  simp only [opStep, h1, Option.bind_eq_some_iff] at h ⊢
  obtain ⟨xv, hxv, h⟩ := h
  cases xv with
  | sl o2 z2 ys =>
    simp only [Option.bind_eq_some_iff, Prod.exists] at h
    obtain ⟨v, e1, hv, h⟩ := h
    cases v with
    | sl o z1 xs =>
      simp only at h
      split at h
      · rename_i hc
        cases h
        obtain ⟨e3, t1, t2⟩ := takeX_cong (e2 := s2.env) (fun t ht => ha t (by simp [rd, ht])) hv
        refine ⟨⟨Lw.put e3 d (.sl true z (xs ++ ys)), s2.lh, s2.gh⟩, ⟨_, hxv, by simp only [t1, Option.bind_some]; rw [if_pos hc]⟩, ?_, rfl, rfl, rfl, rfl⟩
        exact (t2.thenPut d _).congr (fun t => by simp [wr, opDst]; exact or_comm)
      · cases h
    | _ => cases h
  | _ => cases h
theorem keptB_cong {e e2 : List (Nat × PV)} {gh gh' : List GObj} {n : Nat} (h : get e2 n = get e n) (hk : keptB e gh gh' n) : keptB e2 gh gh' n := by
  unfold keptB at *
  rw [h]; exact hk
theorem local_callP {d : Option Nat} {f : Nat} {xs : List IX} {ns : List Nat} : Local cf (.callP d f xs ns) := by
  intro s s2 ha hh s' h
  have h1 : evalXs s2.env xs = evalXs s.env xs := evalXs_cong (fun t ht => ha t (by simp [rd, ht]))
  have hg : s2.gh = s.gh := hh.2
  simp only [opStep, h1, Option.bind_eq_some_iff] at h ⊢
  obtain ⟨vs, hv, s1, h2, h3⟩ := h
  split at h3
  · rename_i hk
    cases h3
    obtain ⟨s2', c1, c2, c3⟩ := doCall_local (q := false) (s2 := s2) hh h2
    refine ⟨s2', ⟨vs, hv, s2', c1, ?_⟩, by simpa [wr, opDst] using c2, c3⟩
    have hg' : s2'.gh = s'.gh := c3.2
    rw [if_pos (fun n hn => by rw [hg, hg']; exact keptB_cong (ha n (by simp [rd, hn])) (hk n hn))]
  · cases h3
theorem local_callR {d : Option Nat} {f : Nat} {xs : List IX} {n o2 : Nat} : Local cf (.callR d f xs n o2) := by
  intro s s2 ha hh s' h
  have h1 : evalXs s2.env xs = evalXs s.env xs := evalXs_cong (fun t ht => ha t (by simp [rd, ht]))
  have h2 : get s2.env n = get s.env n := ha n (by simp [rd])
  have hg : s2.gh = s.gh := hh.2
  simp only [opStep, h1, h2, Option.bind_eq_some_iff] at h ⊢
  obtain ⟨vs, hv, h⟩ := h
  split at h
  · rename_i b off hp
    unfold doCallR at h ⊢
    simp only [Option.bind_eq_some_iff, hg] at h ⊢
    obtain ⟨s1, h3, g1, h4, g2, h5, r1, h6, r2, h7, h8⟩ := h
    split at h8
    · rename_i hk
      cases h8
      obtain ⟨s2', c1, c2, c3⟩ := doCall_local (q := false) (s2 := s2) hh h3
      exact ⟨s2', ⟨vs, hv, s2', c1, g1, h4, g2, h5, r1, h6, r2, h7, by rw [if_pos hk]⟩, by simpa [wr, opDst] using c2, c3⟩
    · cases h8
  · cases h
theorem local_appendE {d bytes : Nat} {sx x : IX} : Local cf (.appendE d bytes sx x) := by
  intro s s2 ha hh s' h
  obtain ⟨e2, l2, g2⟩ := s2
  obtain rfl : g2 = s.gh := hh
  have h1 : evalX e2 x = evalX s.env x := evalX_cong (fun t ht => ha t (by simp [rd, ht]))
  simp only [opStep, h1, Option.bind_eq_some_iff, Prod.exists] at h ⊢
  obtain ⟨xv, hxv, ys, hys, v, e1, hv, h⟩ := h
  cases v with
  | sl o z1 xs =>
    simp only at h
    split at h
    · rename_i hc
      cases h
      obtain ⟨e3, t1, t2⟩ := takeX_cong (e2 := e2) (fun t ht => ha t (by simp [rd, ht])) hv
      refine ⟨⟨Lw.put e3 d (.sl true 1 (xs ++ ys)), l2, s.gh⟩, ⟨xv, hxv, ys, hys, _, _, t1, by simp only; rw [if_pos hc]⟩, ?_, rfl, rfl, rfl, rfl⟩
      exact (t2.thenPut d _).congr (fun t => by simp [wr, opDst]; exact or_comm)
    · cases h
  | _ => cases h
theorem local_loadKB {d : Nat} {x : IX} {n : Nat} : Local cf (.loadKB d x n) := by
  intro s s2 ha hh s' h
  obtain ⟨e2, l2, g2⟩ := s2
  obtain rfl : g2 = s.gh := hh
  have h1 : evalX e2 x = evalX s.env x := evalX_cong (fun t ht => ha t (by simp [rd, ht]))
  have h2 : get e2 n = get s.env n := ha n (by simp [rd])
  simp only [opStep, h1, h2] at h ⊢
  split at h
  · split at h
    · rename_i hb
      simp only [Option.map_eq_some_iff] at h
      obtain ⟨v, hv, rfl⟩ := h
      exact ⟨(⟨e2, l2, s.gh⟩ : St).put d v, by rw [if_pos hb, hv]; rfl, (EnvR.put1 d v).congr (fun t => by simp [wr, opDst]), rfl, rfl, rfl, rfl⟩
    · cases h
  · cases h
theorem loadTB_loadT {d : Nat} {x : IX} {n o2 : Nat} (h : opStep cf s (.loadTB d x n o2) = some s') : opStep cf s (.loadT d x) = some s' := by
  simp only [opStep] at h ⊢
  split at h
  · rename_i hp _
    split at h
    · rw [hp]; exact h
    · cases h
  · cases h
theorem local_loadTB {d : Nat} {x : IX} {n o2 : Nat} : Local cf (.loadTB d x n o2) := by
  intro s s2 ha hh s' h
  have h1 : evalX s2.env x = evalX s.env x := evalX_cong (fun t ht => ha t (by simp [rd, ht]))
  have h2 : get s2.env n = get s.env n := ha n (by simp [rd])
  obtain ⟨s2', c1, c2, c3⟩ := local_loadT (cf := cf) (d := d) (x := x) s s2 (fun t ht => ha t (by simp only [rd, List.mem_cons] at ht ⊢; exact .inr ht)) hh s' (loadTB_loadT h)
  refine ⟨s2', ?_, c2, c3⟩
  simp only [opStep, h1, h2] at h c1 ⊢
  split at h
  · rename_i hp _
    split at h
    · rename_i hb
      rw [if_pos hb]
      rw [hp] at c1; exact c1
    · cases h
  · cases h
theorem local_loadB {d : Nat} {agg : Bool} {k : Nat} {x : IX} {n : Nat} : Local cf (.loadB d agg k x n) := by
  intro s s2 ha hh s' h
  have h1 : evalX s2.env x = evalX s.env x := evalX_cong (fun t ht => ha t (by simp [rd, ht]))
  have h2 : get s2.env n = get s.env n := ha n (by simp [rd])
  simp only [opStep, h1, h2] at h ⊢
  split at h
  · rename_i b off b' o' hp hq
    split at h
    · rename_i hne
      simp only [Option.bind_eq_some_iff, Option.map_eq_some_iff] at h
      obtain ⟨cs, hc, v, hv, rfl⟩ := h
      obtain ⟨cs2, hc2, he⟩ := cellsAt_ext hh hc
      obtain ⟨v2, hv2, he2⟩ := grab_deg he hv
      refine ⟨s2.put d (degr v), by simp [hne, hc2, hv2, he2] <;> (subst hne; simp [hc2, hv2, he2]), (EnvR.put1 d _).congr (fun t => by simp [wr, opDst]), rfl, rfl, rfl, rfl⟩
    · cases h
  · cases h
theorem local_loadJ {d : Nat} {agg : Bool} {k : Nat} {x : IX} : Local cf (.loadJ d agg k x) := by
  intro s s2 ha hh s' h
  have h1 : evalX s2.env x = evalX s.env x := evalX_cong (fun t ht => ha t (by simp [rd, ht]))
  simp only [opStep, h1] at h ⊢
  split at h
  · rename_i b off hp
    simp only [Option.bind_eq_some_iff, Option.map_eq_some_iff] at h
    obtain ⟨cs, hc, v, hv, rfl⟩ := h
    obtain ⟨cs2, hc2, he⟩ := cellsAt_ext hh hc
    obtain ⟨v2, hv2, he2⟩ := grab_deg he hv
    exact ⟨s2.put d (degr v), by simp [hc2, hv2, he2], (EnvR.put1 d _).congr (fun t => by simp [wr, opDst]), rfl, rfl, rfl, rfl⟩
  · cases h
theorem local_appendP {d bytes : Nat} {sx x : IX} {ns : List Nat} : Local cf (.appendP d bytes sx x ns) := by
  intro s s2 ha hh s' h
  have hg : s2.gh = s.gh := hh.2
  simp only [opStep, Option.bind_eq_some_iff] at h ⊢
  obtain ⟨s1, h1, h2⟩ := h
  split at h2
  · rename_i hk
    cases h2
    obtain ⟨s2', c1, c2, c3⟩ := local_appendN (cf := cf) s s2 (fun t ht => ha t (by simp only [rd, List.mem_append] at ht ⊢; exact .inr ht)) hh _ h1
    have hg' : s2'.gh = s'.gh := c3.2.2.2
    refine ⟨s2', ⟨s2', c1, ?_⟩, c2, c3⟩
    rw [if_pos (fun n hn => by rw [hg, hg']; exact keptB_cong (ha n (by simp [rd, hn])) (hk n hn))]
  · cases h2
theorem fills_mkarr {d z bytes : Nat} {zero : PV} {l : IX} : Fills cf (.mkarr d z bytes zero l) d := by
  intro s s2 ha s' h
  have h1 : evalX s2.env l = evalX s.env l := evalX_cong (fun t ht => ha t (by simp [rd, ht]))
  simp only [opStep, h1] at h ⊢
  split at h
  · split at h
    · rename_i hc; cases h; exact ⟨_, rfl, by rw [if_pos hc]⟩
    · cases h
  · cases h
theorem adopt_cong {L : List Nat} : ∀ {l : List Nat} {s s2 : St}, (∀ t ∈ l, t ∈ L) → s2.lh = s.lh → s2.gh = s.gh → (∀ t ∈ L, get s2.env t = get s.env t) →
    (adopt l s2).lh = (adopt l s).lh ∧ (adopt l s2).gh = (adopt l s).gh ∧ (∀ t ∈ L, get (adopt l s2).env t = get (adopt l s).env t) ∧ (∀ t, t ∉ L → get (adopt l s2).env t = get s2.env t) ∧ (∀ t, t ∉ L → get (adopt l s).env t = get s.env t) ∧ (adopt l s).lh = s.lh
  | [], s, s2, _, h1, h2, h3 => ⟨h1, h2, h3, fun _ _ => rfl, fun _ _ => rfl, rfl⟩
  | t :: l, s, s2, hl, h1, h2, h3 => by
    have ht := h3 t (hl t (by simp))
    unfold adopt
    rw [ht]
    split
    · rename_i z n hg
      obtain ⟨r1, r2, r3, r4, r5, r6⟩ := adopt_cong (L := L) (l := l) (s := ⟨Lw.put s.env t (.bs true s.gh.length 0 n 1), s.lh, s.gh ++ [.cells (List.replicate n z)]⟩) (s2 := ⟨Lw.put s2.env t (.bs true s2.gh.length 0 n 1), s2.lh, s2.gh ++ [.cells (List.replicate n z)]⟩)
        (fun t ht => hl t (by simp [ht])) h1 (by rw [h2]) (fun u hu => by simp only [get_put, h2]; split <;> first | rfl | exact h3 u hu)
      refine ⟨r1, r2, r3, fun u hu => ?_, fun u hu => ?_, r6⟩
      · rw [r4 u hu]
        simp only [get_put]
        rw [if_neg (fun e => hu (by rw [← e]; exact hl t (by simp)))]
      · rw [r5 u hu]
        simp only [get_put]
        rw [if_neg (fun e => hu (by rw [← e]; exact hl t (by simp)))]
    · exact adopt_cong (L := L) (l := l) (fun t ht => hl t (by simp [ht])) h1 h2 h3
theorem local_buildA {d : Nat} {z : List PV} {ps : List (Nat × Nat × IX)} : Local cf (.buildA d z ps) := by
  intro s s2 ha hh s' h
  have hsl : ∀ t ∈ (ps.flatMap fun p => slotX p.2.2), t ∈ rdPs ps := fun t ht => by
    simp only [rdPs, List.mem_flatMap] at ht ⊢
    obtain ⟨p, hp, ht⟩ := ht
    refine ⟨p, hp, ?_⟩
    cases hx : p.2.2 <;> rw [hx] at ht <;> simp [slotX] at ht
    simp [rdX, ht]
  obtain ⟨r1, r2, r3, r4, r5, r6⟩ := adopt_cong (L := rdPs ps) (s := s) (s2 := s2) hsl hh.1 hh.2 (fun t ht => ha t (by simp only [rd]; exact ht))
  have h' : opStep cf (adopt (ps.flatMap fun p => slotX p.2.2) s) (.buildT d z ps) = some s' := h
  obtain ⟨s2', c1, c2, c3⟩ := local_buildT (cf := cf) (adopt (ps.flatMap fun p => slotX p.2.2) s) (adopt (ps.flatMap fun p => slotX p.2.2) s2) (fun t ht => r3 t ht) (show HOk 0 _ _ from trivial) s' h'
  refine ⟨s2', c1, fun t => ?_, ?_, ?_⟩
  · rw [c2 t]
    show (if t ∈ wr (.buildA d z ps) then _ else _) = (if t ∈ wr (.buildA d z ps) then _ else _)
    by_cases hw : t ∈ wr (.buildA d z ps)
    · rw [if_pos hw, if_pos hw]
    · rw [if_neg hw, if_neg hw]
      exact r4 t (fun h => hw (by simp only [wr, List.mem_append]; exact .inr h))
  · rw [c3.2.2.1, r1, c3.1]
  · rw [c3.2.2.2, r2, c3.2.1]
theorem step_local (i : IOp) : Local cf i := by
  cases i with
  | callP => exact local_callP
  | callR => exact local_callR
  | loadB => exact local_loadB
  | appendE => exact local_appendE
  | loadKB => exact local_loadKB
  | loadTB => exact local_loadTB
  | loadJ => exact local_loadJ
  | appendP => exact local_appendP
  | mkarr => exact fills_mkarr.local rfl rfl
  | buildA => exact local_buildA
  | tk => exact local_tk
  | box => exact local_box
  | alloc => exact local_alloc
  | buildT => exact local_buildT
  | load => exact local_load
  | loadN => exact local_loadN
  | lookup => exact local_lookup
  | len => exact local_len
  | mkmap => exact local_mkmap
  | mksl => exact local_mksl
  | loadT => exact local_loadT
  | loadL => exact local_loadL
  | store => exact local_store
  | mupd => exact local_mupd
  | call => exact local_call
  | callv => exact local_callv
  | callF => exact local_callF
  | callE => exact local_callE
  | append => exact local_append
  | appendK => exact local_appendK
  | appendN => exact local_appendN
  | buildSlK => exact local_buildSlK
  | loadK => exact local_loadK
  | loadH => exact local_loadH
  | mv => exact fills_mv.local rfl rfl
  | pick => exact fills_pick.local rfl rfl
  | build => exact fills_build.local rfl rfl
  | buildSl => exact fills_buildSl.local rfl rfl
  | nilc => exact fills_nilc.local rfl rfl
  | bin => exact fills_bin.local rfl rfl
  | eqa => exact fills_eqa.local rfl rfl
  | eqb => exact fills_eqb.local rfl rfl
  | eqn => exact fills_eqn.local rfl rfl
  | un => exact fills_un.local rfl rfl
  | conv => exact fills_conv.local rfl rfl
  | mkfn => exact fills_mkfn.local rfl rfl
  | mkbf => exact fills_mkbf.local rfl rfl
  | storeK => exact local_storeK
  | clearK => exact local_clearK
  | slice => exact fills_slice.local rfl rfl
  | sliceS => exact fills_sliceS.local rfl rfl
  | faddr => exact fills_faddr.local rfl rfl
  | field => exact fills_field.local rfl rfl
  | iaddr => exact fills_iaddr.local rfl rfl
  | index => exact fills_index.local rfl rfl
  | indexS => exact fills_indexS.local rfl rfl
  | maxi => exact fills_maxi.local rfl rfl
  | extract => exact fills_extract.local rfl rfl
end
end Go.Lw
end

/-! Two operations that do not meet change places; one that meets none of those ahead of it goes to the front. -/
section
namespace Go.Lw
open Go Go.RowKit
section
variable {s s' s1 s2 t1 t2 : St} {cf : CallF}
def HRes2 (c : Nat) (s s' s2 s2' : St) : Prop :=
  match c with
  | 0 | 1 | 2 | 8 => s'.lh = s.lh ∧ s'.gh = s.gh ∧ s2'.lh = s2.lh ∧ s2'.gh = s2.gh
  | 3 => (∀ (b : Nat) (cs : List PV), s.lh[b]? = some cs → s'.lh[b]? = some cs) ∧ s'.gh = s.gh ∧ s2'.lh = s'.lh ∧ s2'.gh = s'.gh
  | 4 => s'.lh = s.lh ∧ (∀ (b : Nat) (o : GObj), s.gh[b]? = some o → s'.gh[b]? = some o) ∧ s2'.lh = s'.lh ∧ s2'.gh = s'.gh
  | 6 => s'.lh.map (List.map degr1) = s.lh.map (List.map degr1) ∧ s'.gh = s.gh ∧ s2'.lh = s'.lh ∧ s2'.gh = s'.gh
  | 7 => s'.lh.map (List.map degr1) = s.lh.map (List.map degr1) ∧ s'.gh.map GObj.deg = s.gh.map GObj.deg ∧ s2'.lh = s'.lh ∧ s2'.gh = s'.gh
  | 9 => s'.lh = s.lh ∧ (∀ (b : Nat) (o : GObj), s.gh[b]? = some o → ∃ o2, s'.gh[b]? = some o2 ∧ o2.deg = o.deg) ∧ s2'.lh = s'.lh ∧ s2'.gh = s'.gh
  | _ => s2'.lh = s'.lh ∧ s2'.gh = s'.gh
theorem HRes.two {c : Nat} (h : HRes c s s' s2 s1) : HRes2 c s s' s2 s1 := by
  match c, h with
  | 0, h => exact h
  | 1, h => exact h
  | 2, h => exact h
  | 3, ⟨⟨cs, h1⟩, h2⟩ => exact ⟨fun b cs' hb => by rw [h1, List.getElem?_append_left (List.getElem?_eq_some_iff.1 hb).1]; exact hb, h2⟩
  | 4, ⟨h0, ⟨o, h1⟩, h2⟩ => exact ⟨h0, fun b o' hb => by rw [h1, List.getElem?_append_left (List.getElem?_eq_some_iff.1 hb).1]; exact hb, h2⟩
  | 5, h => exact h
  | 6, h => exact h
  | 7, h => exact h
  | 8, h => exact h
  | 9, h => exact h
  | n + 10, h => exact h
def rdG (i : IOpG) : List Nat := (match i.guard with | some (g, _) => [g] | none => []) ++ rd i.op
theorem wr_rd {i : IOp} {t : Nat} (h : t ∈ wr i) : opDst i = some t ∨ t ∈ rd i := by
  simp only [wr, List.mem_append, Option.mem_toList] at h
  rcases h with h | h
  · exact .inl h
  · right
    split at h <;> first | (simp at h; done) | (simpa [rd] using h) | (simp [rd]; first | exact .inl h | exact .inr h | exact h)
theorem opG_local (i : IOpG) (ha : ∀ t ∈ rdG i, get s2.env t = get s.env t) (hh : HOk (cls i.op) s s2) (h : opG cf i s = some s') :
    ∃ s2', opG cf i s2 = some s2' ∧ EnvR (wr i.op) s'.env s2.env s2'.env ∧ HRes2 (cls i.op) s s' s2 s2' := by
  have hstep : ∀ s', opStep cf s i.op = some s' → ∃ s2', opStep cf s2 i.op = some s2' ∧ EnvR (wr i.op) s'.env s2.env s2'.env ∧ HRes2 (cls i.op) s s' s2 s2' := fun s' hs => by
    obtain ⟨s2', h1, h2, h3⟩ := step_local i.op s s2 (fun t ht => ha t (by simp [rdG, ht])) hh s' hs
    exact ⟨s2', h1, h2, h3.two⟩
  have hskip : EnvR (wr i.op) (skipped s i.op).env s2.env (skipped s2 i.op).env ∧ HRes2 (cls i.op) s (skipped s i.op) s2 (skipped s2 i.op) := by
    refine ⟨fun t => ?_, ?_⟩
    · by_cases ht : t ∈ wr i.op
      · rw [if_pos ht]
        unfold skipped
        cases hd : opDst i.op with
        | none =>
          have := (wr_rd ht).resolve_left (by simp [hd])
          exact ha t (by simp [rdG, this])
        | some d =>
          simp only [St.put, get_put]
          by_cases hdt : d = t
          · simp [hdt]
          · have := (wr_rd ht).resolve_left (by simp [hd, hdt])
            simp only [hdt, if_false]
            exact ha t (by simp [rdG, this])
      · rw [if_neg ht]
        unfold skipped
        cases hd : opDst i.op with
        | none => rfl
        | some d =>
          have : d ≠ t := fun e => ht (by subst e; simp [wr, hd])
          simp [St.put, get_put, this]
    · have e1 : (skipped s i.op).lh = s.lh ∧ (skipped s i.op).gh = s.gh := by unfold skipped; cases opDst i.op <;> exact ⟨rfl, rfl⟩
      have e2 : (skipped s2 i.op).lh = s2.lh ∧ (skipped s2 i.op).gh = s2.gh := by unfold skipped; cases opDst i.op <;> exact ⟨rfl, rfl⟩
      generalize cls i.op = c at hh
      match c, hh with
      | 0, _ => exact ⟨e1.1, e1.2, e2.1, e2.2⟩
      | 1, _ => exact ⟨e1.1, e1.2, e2.1, e2.2⟩
      | 2, _ => exact ⟨e1.1, e1.2, e2.1, e2.2⟩
      | 3, ⟨h1, h2⟩ => exact ⟨fun b cs hb => by rw [e1.1]; exact hb, e1.2, by rw [e1.1, e2.1, h1], by rw [e1.2, e2.2, h2]⟩
      | 4, ⟨h1, h2⟩ => exact ⟨e1.1, fun b cs hb => by rw [e1.2]; exact hb, by rw [e1.1, e2.1, h1], by rw [e1.2, e2.2, h2]⟩
      | 5, ⟨h1, h2⟩ => exact ⟨by rw [e1.1, e2.1, h1], by rw [e1.2, e2.2, h2]⟩
      | 6, ⟨h1, h2⟩ => exact ⟨by rw [e1.1], e1.2, by rw [e1.1, e2.1, h1], by rw [e1.2, e2.2, h2]⟩
      | 7, ⟨h1, h2⟩ => exact ⟨by rw [e1.1], by rw [e1.2], by rw [e1.1, e2.1, h1], by rw [e1.2, e2.2, h2]⟩
      | 8, _ => exact ⟨e1.1, e1.2, e2.1, e2.2⟩
      | 9, ⟨h1, h2⟩ => exact ⟨e1.1, fun b o hb => ⟨o, by rw [e1.2]; exact hb, rfl⟩, by rw [e1.1, e2.1, h1], by rw [e1.2, e2.2, h2]⟩
      | n + 10, ⟨h1, h2⟩ => exact ⟨by rw [e1.1, e2.1, h1], by rw [e1.2, e2.2, h2]⟩
  unfold opG at h ⊢
  cases hg : i.guard with
  | none => rw [hg] at h; exact hstep s' h
  | some q =>
    obtain ⟨g, want⟩ := q
    rw [hg] at h
    have hgg : get s2.env g = get s.env g := ha g (by simp [rdG, hg])
    simp only at h ⊢
    rw [hgg]
    split at h
    · split at h
      · rename_i hw
        simp only [hw, if_true]
        exact hstep s' h
      · rename_i hw
        cases h
        simp only [if_neg hw]
        exact ⟨_, rfl, hskip⟩
    · cases h
      exact ⟨_, rfl, hskip⟩
    · cases h
theorem opG_frame (i : IOpG) (h : opG cf i s = some s') {t : Nat} (ht : t ∉ wr i.op) : get s'.env t = get s.env t := by
  have hh : HOk (cls i.op) s s := by
    generalize cls i.op = c
    match c with
    | 0 => trivial
    | 1 => rfl
    | 2 => exact ⟨fun _ cs h => ⟨cs, h, rfl⟩, fun _ o h => ⟨o, h, rfl⟩⟩
    | 3 | 4 | 5 | 6 | 7 => exact ⟨rfl, rfl⟩
    | 8 => exact (rfl : s.lh = s.lh)
    | 9 => exact ⟨rfl, rfl⟩
    | n + 10 => exact ⟨rfl, rfl⟩
  obtain ⟨s2', h1, h2, _⟩ := opG_local (s2 := s) i (fun _ _ => rfl) hh h
  rw [h] at h1; cases h1
  have := h2 t
  rwa [if_neg ht] at this
theorem opG_res (i : IOpG) (h : opG cf i s = some s') : HRes2 (cls i.op) s s' s s' := by
  have hh : HOk (cls i.op) s s := by
    generalize cls i.op = c
    match c with
    | 0 => trivial
    | 1 => rfl
    | 2 => exact ⟨fun _ cs h => ⟨cs, h, rfl⟩, fun _ o h => ⟨o, h, rfl⟩⟩
    | 3 | 4 | 5 | 6 | 7 => exact ⟨rfl, rfl⟩
    | 8 => exact (rfl : s.lh = s.lh)
    | 9 => exact ⟨rfl, rfl⟩
    | n + 10 => exact ⟨rfl, rfl⟩
  obtain ⟨s2', h1, _, h3⟩ := opG_local (s2 := s) i (fun _ _ => rfl) hh h
  rw [h] at h1; cases h1
  exact h3
def clsOk (p x : Nat) : Bool := p == 0 || (x == 0 || ((decide (p ≤ 2) && decide (x ≤ 2)) || ((p == 1 && x == 3) || ((p == 2 && x == 3) || ((p == 2 && x == 4) || ((p == 3 && x == 1) || ((p == 1 && x == 6) || ((p == 6 && x == 1) || ((p == 2 && x == 6) || ((p == 2 && x == 7) || ((p == 6 && x == 2) || ((p == 7 && x == 2) || ((p == 4 && x == 8) || ((p == 8 && x == 8) || (p == 2 && x == 9)))))))))))))))
def apartS (p x : IOpG) : Bool := (wr p.op).all (fun t => !(rdG x).contains t && !(wr x.op).contains t) && (wr x.op).all (fun t => !(rdG p).contains t)
def Eqv (s s2 : St) : Prop := (∀ t, get s2.env t = get s.env t) ∧ s2.lh = s.lh ∧ s2.gh = s.gh
theorem ok_le {p x : Nat} (h : clsOk p x = true) : (p = 0) ∨ (x = 0) ∨ (p ≤ 2 ∧ x ≤ 2) ∨ (p = 1 ∧ x = 3) ∨ (p = 2 ∧ x = 3) ∨ (p = 2 ∧ x = 4) ∨ (p = 3 ∧ x = 1) ∨ (p = 1 ∧ x = 6) ∨ (p = 6 ∧ x = 1) ∨ (p = 2 ∧ x = 6) ∨ (p = 2 ∧ x = 7) ∨ (p = 6 ∧ x = 2) ∨ (p = 7 ∧ x = 2) ∨ (p = 4 ∧ x = 8) ∨ (p = 8 ∧ x = 8) ∨ (p = 2 ∧ x = 9) := by
  simpa only [clsOk, Bool.or_eq_true, Bool.and_eq_true, beq_iff_eq, decide_eq_true_eq] using h
theorem res_le2 {c : Nat} (hc : c ≤ 2) (h : HRes2 c s s' s2 s1) : s'.lh = s.lh ∧ s'.gh = s.gh ∧ s1.lh = s2.lh ∧ s1.gh = s2.gh := by
  match c, hc, h with
  | 0, _, h => exact h
  | 1, _, h => exact h
  | 2, _, h => exact h
theorem res_eq {c : Nat} (h : HRes2 c s s' s2 s1) (e1 : s2.lh = s.lh) (e2 : s2.gh = s.gh) : s1.lh = s'.lh ∧ s1.gh = s'.gh := by
  match c, h with
  | 0, h => exact ⟨by rw [h.2.2.1, e1, h.1], by rw [h.2.2.2, e2, h.2.1]⟩
  | 1, h => exact ⟨by rw [h.2.2.1, e1, h.1], by rw [h.2.2.2, e2, h.2.1]⟩
  | 2, h => exact ⟨by rw [h.2.2.1, e1, h.1], by rw [h.2.2.2, e2, h.2.1]⟩
  | 3, h => exact h.2.2
  | 4, h => exact h.2.2
  | 5, h => exact h
  | 6, h => exact h.2.2
  | 7, h => exact h.2.2
  | 8, h => exact ⟨by rw [h.2.2.1, e1, h.1], by rw [h.2.2.2, e2, h.2.1]⟩
  | 9, h => exact h.2.2
  | n + 10, h => exact h
theorem hok_eq {c : Nat} (e1 : s2.lh = s.lh) (e2 : s2.gh = s.gh) : HOk c s s2 := by
  match c with
  | 0 => trivial
  | 1 => exact e2
  | 2 => exact ⟨fun b cs h => ⟨cs, by rw [e1]; exact h, rfl⟩, fun b o h => ⟨o, by rw [e2]; exact h, rfl⟩⟩
  | 3 | 4 | 5 | 6 | 7 => exact ⟨e1, e2⟩
  | 8 => exact e1
  | 9 => exact ⟨e1, e2⟩
  | n + 10 => exact ⟨e1, e2⟩
theorem same_fwd {α β : Type} (f : α → β) {l l' : List α} (h : l'.map f = l.map f) {b : Nat} {x : α} (hx : l[b]? = some x) : ∃ y, l'[b]? = some y ∧ f y = f x := by
  have h1 : (l'.map f)[b]? = (l.map f)[b]? := by rw [h]
  rw [List.getElem?_map, List.getElem?_map, hx] at h1
  simpa using h1
theorem swap {p x : IOpG} (ha : apartS p x = true) (hc : clsOk (cls p.op) (cls x.op) = true) (h1 : opG cf p s = some s1) (h2 : opG cf x s1 = some s2) :
    ∃ t1 t2, opG cf x s = some t1 ∧ opG cf p t1 = some t2 ∧ Eqv s2 t2 := by
  simp only [apartS, Bool.and_eq_true, List.all_eq_true, Bool.not_eq_true', List.contains_eq_mem, decide_eq_false_iff_not] at ha
  obtain ⟨a1, a2⟩ := ha
  have r1 := opG_res p h1
  have f1 := fun t ht => opG_frame (t := t) p h1 ht
  have f2 := fun t ht => opG_frame (t := t) x h2 ht
  have hx : HOk (cls x.op) s1 s := by
    rcases ok_le hc with e | e | ⟨e, _⟩ | ⟨e, _⟩ | ⟨e, _⟩ | ⟨e, _⟩ | ⟨e, e'⟩ | ⟨e, _⟩ | ⟨e, e'⟩ | ⟨e, _⟩ | ⟨e, _⟩ | ⟨e, e'⟩ | ⟨e, e'⟩ | ⟨e, e'⟩ | ⟨e, e'⟩ | ⟨e, e'⟩
    · have := res_le2 (by omega) r1; exact hok_eq this.1.symm this.2.1.symm
    · rw [e]; trivial
    · have := res_le2 (by omega) r1; exact hok_eq this.1.symm this.2.1.symm
    · have := res_le2 (by omega) r1; exact hok_eq this.1.symm this.2.1.symm
    · have := res_le2 (by omega) r1; exact hok_eq this.1.symm this.2.1.symm
    · have := res_le2 (by omega) r1; exact hok_eq this.1.symm this.2.1.symm
    · rw [e] at r1; rw [e']; exact r1.2.1.symm
    · have := res_le2 (by omega) r1; exact hok_eq this.1.symm this.2.1.symm
    · rw [e] at r1; rw [e']; exact r1.2.1.symm
    · have := res_le2 (by omega) r1; exact hok_eq this.1.symm this.2.1.symm
    · have := res_le2 (by omega) r1; exact hok_eq this.1.symm this.2.1.symm
    · rw [e] at r1; rw [e']; exact ⟨fun b cs => same_fwd _ r1.1.symm, fun b o hb => ⟨o, by rw [← r1.2.1]; exact hb, rfl⟩⟩
    · rw [e] at r1; rw [e']; exact ⟨fun b cs => same_fwd _ r1.1.symm, fun b o => same_fwd _ r1.2.1.symm⟩
    · rw [e] at r1; rw [e']; exact r1.1.symm
    · rw [e] at r1; rw [e']; exact r1.1.symm
    · have := res_le2 (by omega) r1; exact hok_eq this.1.symm this.2.1.symm
  obtain ⟨t1, g1, g2, g3⟩ := opG_local (s2 := s) x (fun t ht => (f1 t (fun hw => (a1 t hw).1 ht)).symm) hx h2
  have hp : HOk (cls p.op) s t1 := by
    rcases ok_le hc with e | e | ⟨e, e'⟩ | ⟨e, e'⟩ | ⟨e, e'⟩ | ⟨e, e'⟩ | ⟨e, e'⟩ | ⟨e, e'⟩ | ⟨e, e'⟩ | ⟨e, e'⟩ | ⟨e, e'⟩ | ⟨e, e'⟩ | ⟨e, e'⟩ | ⟨e, e'⟩ | ⟨e, e'⟩ | ⟨e, e'⟩
    · rw [e]; trivial
    · have := res_le2 (by omega) g3; exact hok_eq this.2.2.1 this.2.2.2
    · have := res_le2 (by omega) g3; exact hok_eq this.2.2.1 this.2.2.2
    · rw [e'] at g3
      have := res_le2 (by omega) r1
      rw [e]; exact g3.2.2.2.trans (g3.2.1.trans this.2.1)
    · rw [e'] at g3
      have := res_le2 (by omega) r1
      rw [e]
      exact ⟨fun b cs hb => ⟨cs, by rw [g3.2.2.1]; exact g3.1 b cs (by rw [this.1]; exact hb), rfl⟩, fun b o hb => ⟨o, by rw [g3.2.2.2, g3.2.1, this.2.1]; exact hb, rfl⟩⟩
    · rw [e'] at g3
      have := res_le2 (by omega) r1
      rw [e]
      exact ⟨fun b cs hb => ⟨cs, by rw [g3.2.2.1, g3.1, this.1]; exact hb, rfl⟩, fun b o hb => ⟨o, by rw [g3.2.2.2]; exact g3.2.1 b o (by rw [this.2.1]; exact hb), rfl⟩⟩
    · have := res_le2 (by omega) g3; exact hok_eq this.2.2.1 this.2.2.2
    · rw [e'] at g3
      have := res_le2 (by omega) r1
      rw [e]; exact g3.2.2.2.trans (g3.2.1.trans this.2.1)
    · have := res_le2 (by omega) g3; exact hok_eq this.2.2.1 this.2.2.2
    · rw [e'] at g3
      have := res_le2 (by omega) r1
      rw [e]
      refine ⟨fun b cs hb => ?_, fun b o hb => ⟨o, by rw [g3.2.2.2, g3.2.1, this.2.1]; exact hb, rfl⟩⟩
      rw [g3.2.2.1]; exact same_fwd _ g3.1 (by rw [this.1]; exact hb)
    · rw [e'] at g3
      have := res_le2 (by omega) r1
      rw [e]
      refine ⟨fun b cs hb => ?_, fun b o hb => ?_⟩
      · rw [g3.2.2.1]; exact same_fwd _ g3.1 (by rw [this.1]; exact hb)
      · rw [g3.2.2.2]; exact same_fwd _ g3.2.1 (by rw [this.2.1]; exact hb)
    · have := res_le2 (by omega) g3; exact hok_eq this.2.2.1 this.2.2.2
    · have := res_le2 (by omega) g3; exact hok_eq this.2.2.1 this.2.2.2
    · rw [e'] at g3; exact hok_eq g3.2.2.1 g3.2.2.2
    · rw [e'] at g3; exact hok_eq g3.2.2.1 g3.2.2.2
    · rw [e'] at g3
      have := res_le2 (by omega) r1
      rw [e]
      exact ⟨fun b cs hb => ⟨cs, by rw [g3.2.2.1, g3.1, this.1]; exact hb, rfl⟩, fun b o hb => by rw [g3.2.2.2]; exact g3.2.1 b o (by rw [this.2.1]; exact hb)⟩
  obtain ⟨t2, k1, k2, k3⟩ := opG_local (s2 := t1) p (fun t ht => by rw [g2 t, if_neg (fun hw => a2 t hw ht)]) hp h1
  refine ⟨t1, t2, g1, k1, fun t => ?_, ?_⟩
  · rw [k2 t]
    by_cases hw : t ∈ wr p.op
    · rw [if_pos hw, f2 t (a1 t hw).2]
    · rw [if_neg hw, g2 t]
      by_cases hw2 : t ∈ wr x.op
      · rw [if_pos hw2]
      · rw [if_neg hw2, f2 t hw2, f1 t hw]
  · -- the boxes
    rcases ok_le hc with e | e | ⟨e, e'⟩ | ⟨e, e'⟩ | ⟨e, e'⟩ | ⟨e, e'⟩ | ⟨e, e'⟩ | ⟨e, e'⟩ | ⟨e, e'⟩ | ⟨e, e'⟩ | ⟨e, e'⟩ | ⟨e, e'⟩ | ⟨e, e'⟩ | ⟨e, e'⟩ | ⟨e, e'⟩ | ⟨e, e'⟩
    · have q1 := res_le2 (by omega) r1
      have q2 := res_le2 (by omega) k3
      have q3 := res_eq g3 q1.1.symm q1.2.1.symm
      exact ⟨q2.2.2.1.trans q3.1, q2.2.2.2.trans q3.2⟩
    · have q2 := res_le2 (by omega) g3
      have q3 := res_eq k3 q2.2.2.1 q2.2.2.2
      exact ⟨q3.1.trans q2.1.symm, q3.2.trans q2.2.1.symm⟩
    · have q2 := res_le2 (by omega) g3
      have q3 := res_eq k3 q2.2.2.1 q2.2.2.2
      exact ⟨q3.1.trans q2.1.symm, q3.2.trans q2.2.1.symm⟩
    · have q1 := res_le2 (by omega) r1
      have q2 := res_le2 (by omega) k3
      have q3 := res_eq g3 q1.1.symm q1.2.1.symm
      exact ⟨q2.2.2.1.trans q3.1, q2.2.2.2.trans q3.2⟩
    · have q1 := res_le2 (by omega) r1
      have q2 := res_le2 (by omega) k3
      have q3 := res_eq g3 q1.1.symm q1.2.1.symm
      exact ⟨q2.2.2.1.trans q3.1, q2.2.2.2.trans q3.2⟩
    · have q1 := res_le2 (by omega) r1
      have q2 := res_le2 (by omega) k3
      have q3 := res_eq g3 q1.1.symm q1.2.1.symm
      exact ⟨q2.2.2.1.trans q3.1, q2.2.2.2.trans q3.2⟩
    · have q2 := res_le2 (by omega) g3
      have q3 := res_eq k3 q2.2.2.1 q2.2.2.2
      exact ⟨q3.1.trans q2.1.symm, q3.2.trans q2.2.1.symm⟩
    · have q1 := res_le2 (by omega) r1
      have q2 := res_le2 (by omega) k3
      have q3 := res_eq g3 q1.1.symm q1.2.1.symm
      exact ⟨q2.2.2.1.trans q3.1, q2.2.2.2.trans q3.2⟩
    · have q2 := res_le2 (by omega) g3
      have q3 := res_eq k3 q2.2.2.1 q2.2.2.2
      exact ⟨q3.1.trans q2.1.symm, q3.2.trans q2.2.1.symm⟩
    · have q1 := res_le2 (by omega) r1
      have q2 := res_le2 (by omega) k3
      have q3 := res_eq g3 q1.1.symm q1.2.1.symm
      exact ⟨q2.2.2.1.trans q3.1, q2.2.2.2.trans q3.2⟩
    · have q1 := res_le2 (by omega) r1
      have q2 := res_le2 (by omega) k3
      have q3 := res_eq g3 q1.1.symm q1.2.1.symm
      exact ⟨q2.2.2.1.trans q3.1, q2.2.2.2.trans q3.2⟩
    · have q2 := res_le2 (by omega) g3
      have q3 := res_eq k3 q2.2.2.1 q2.2.2.2
      exact ⟨q3.1.trans q2.1.symm, q3.2.trans q2.2.1.symm⟩
    · have q2 := res_le2 (by omega) g3
      have q3 := res_eq k3 q2.2.2.1 q2.2.2.2
      exact ⟨q3.1.trans q2.1.symm, q3.2.trans q2.2.1.symm⟩
    · have q2 := g3
      rw [e'] at q2
      have q3 := res_eq k3 q2.2.2.1 q2.2.2.2
      exact ⟨q3.1.trans q2.1.symm, q3.2.trans q2.2.1.symm⟩
    · have q2 := g3
      rw [e'] at q2
      have q3 := res_eq k3 q2.2.2.1 q2.2.2.2
      exact ⟨q3.1.trans q2.1.symm, q3.2.trans q2.2.1.symm⟩
    · have q1 := res_le2 (by omega) r1
      have q2 := res_le2 (by omega) k3
      have q3 := res_eq g3 q1.1.symm q1.2.1.symm
      exact ⟨q2.2.2.1.trans q3.1, q2.2.2.2.trans q3.2⟩
end
end Go.Lw
end

/-! Traces as texts: one line (the program's and the document's).. -/
section
namespace Go.Lw
open Go
theorem bA_app (a b : List UInt8) : bA a ++ bA b = bA (a ++ b) := by
  apply ByteArray.ext; simp
def lineB (word : List UInt8) (l : List Int) : List UInt8 := word ++ l.flatMap (fun n => 32 :: itoaK n) ++ [10]
theorem digK_len : ∀ (k u : Nat), (digK k u).length ≤ k
  | 0, _ => Nat.le_refl _
  | k + 1, u => by
    rw [digK]
    split
    · simp
    · have := digK_len k (u / 10)
      simp; omega
theorem itoaK_len (n : Int) : (itoaK n).length ≤ 21 := by
  unfold itoaK
  split
  · have := digK_len 20 n.natAbs
    simp; omega
  · have := digK_len 20 n.toNat
    omega
section
variable {gh : List GObj}
theorem strAdd {a b : List UInt8} (h : a.length + b.length ≤ 9223372036854775807) : binPV .add (.str (bA a)) (.str (bA b)) = some (.str (bA (a ++ b))) := by
  have z1 : (bA a).size = a.length := by simp [ByteArray.size]
  have z2 : (bA b).size = b.length := by simp [ByteArray.size]
  have hm : IntKind.max .i64 = 9223372036854775807 := rfl
  simp only [binPV, z1, z2, hm, bA_app]
  rw [if_neg (by omega)]
theorem itoa_eq {n : Int} (h0 : -9223372036854775808 ≤ n) (h1 : n ≤ 9223372036854775807) : callL pg 260 [I n] gh = some (.str (bA (itoaK n)), gh) := by
  have : callL pg 260 [I n] gh = libItoa [I n] gh := rfl
  rw [this, libItoa, if_pos ⟨h0, h1⟩]
theorem digits_eq {n : Int} (h0 : -9223372036854775808 ≤ n) (h1 : n ≤ 9223372036854775807) : callL pg 363 [I n] gh = some (.str (bA (itoaK n)), gh) := by
  have : callL pg 363 [I n] gh = libItoa [I n] gh := rfl
  rw [this, libItoa, if_pos ⟨h0, h1⟩]
abbrev I64s (l : List Int) : Prop := ∀ n ∈ l, -9223372036854775808 ≤ n ∧ n ≤ 9223372036854775807
abbrev byteAll (l : List Int) : Bool := l.all fun n => decide (0 ≤ n ∧ n ≤ 255)
theorem tline_len (l : List Int) : (l.flatMap fun n => 32 :: itoaK n).length ≤ 22 * l.length := by
  induction l with
  | nil => simp
  | cons a l ih =>
    have := itoaK_len a
    simp only [List.flatMap_cons, List.length_append, List.length_cons]; omega
theorem pline_loop {l : List Int} {word : List UInt8} (hl : I64s l) (hs : l.length ≤ 2000000) (hw : word.length ≤ 100) : ∀ (k i : Nat) (b : Bool), i + k = l.length →
    runL pg f_trace_line_l1 ⟨[(6, .str (bA (word ++ (l.take i).flatMap fun n => 32 :: itoaK n))), (7, B b), (11, LI l), (12, I l.length), (13, I i)], [], gh⟩ =
      some (.normal, ⟨[(6, .str (bA (word ++ l.flatMap fun n => 32 :: itoaK n))), (7, B (b && byteAll (l.drop i)))], [], gh⟩)
  | 0, i, b, hk => by
    have hlt : ¬ (i : Int) < (l.length : Int) := by omega
    rw [List.take_of_length_le (by omega), List.drop_eq_nil_of_le (by omega)]
    refine (lp_exit (s1 := ?s1) (D_trace_line_b1_ok ?h1)).trans ?r1
    case h1 => simp only [D_trace_line_b1, decide_eq_false hlt, br_false]; rfl
    case r1 => simp [keep, stays]
  | k + 1, i, b, hk => by
    have hlt : i < l.length := by omega
    have hltI : (i : Int) < (l.length : Int) := by omega
    have hx : (l.map I)[i]? = some (I l[i]) := by simp [hlt]
    have hr := hl l[i] (List.getElem_mem hlt)
    have hI := itoa_eq (gh := gh) hr.1 hr.2
    have hwr : IntKind.i64.wrap ((i : Int) + 1) = ((i + 1 : Nat) : Int) := wrap_nat (by simp only [Sz]; omega)
    have hT : word ++ (l.take (i + 1)).flatMap (fun n => 32 :: itoaK n) = (word ++ (l.take i).flatMap fun n => 32 :: itoaK n) ++ 32 :: itoaK l[i] := by
      rw [List.take_succ_eq_append_getElem hlt]; simp only [List.flatMap_append, List.flatMap_cons, List.flatMap_nil, List.append_nil, List.append_assoc, List.singleton_append, List.nil_append, List.cons_append]
    have hlen := tline_len (l.take (i + 1))
    have hlen2 : (l.take (i + 1)).length ≤ l.length := by simp; omega
    have ih := pline_loop hl hs hw k (i + 1) (b && decide (0 ≤ l[i] ∧ l[i] ≤ 255)) (by omega)
    rw [List.drop_eq_getElem_cons hlt]
    simp only [byteAll] at ih
    simp only [byteAll, List.all_cons, ← Bool.and_assoc]
    have hz : (word ++ (l.take (i + 1)).flatMap (fun n => 32 :: itoaK n)).length ≤ 100 + 22 * l.length := by rw [List.length_append]; omega
    rw [hT] at ih hz
    simp only [List.length_append] at hz
    rw [← List.length_append] at hz
    generalize (word ++ (l.take i).flatMap fun n => 32 :: itoaK n) = X at *
    generalize ((l.drop (i + 1)).all fun n => decide (0 ≤ n ∧ n ≤ 255)) = rest at *
    generalize l[i] = x at *
    generalize itoaK x = dx at *
    have z1 : binPV .add (.str (bA [32])) (.str (bA dx)) = some (.str (bA (32 :: dx))) := strAdd (a := [32]) (b := dx) (by simp at hz ⊢; omega)
    have z2 : binPV .add (.str (bA X)) (.str (bA (32 :: dx))) = some (.str (bA (X ++ 32 :: dx))) := strAdd (a := X) (b := 32 :: dx) (by simp at hz ⊢; omega)
    obtain ⟨u, hu⟩ : ∃ u : Int, ((i + 1 : Nat) : Int) = u := ⟨_, rfl⟩
    rw [hu] at hwr ih
    simp only [LI] at *
    have hlL : l.length = (l.map I).length := (List.length_map _).symm
    rw [hlL] at ih hltI ⊢
    generalize l.map I = L at *
    refine lp_next (D_trace_line_b1_ok ?h2) ih
    case h2 =>
      by_cases h0 : 0 ≤ x
      · cases b <;> simp [D_trace_line_b1, hltI, hx, hI, z1, z2, hwr, h0]
      · cases b <;> simp [D_trace_line_b1, hltI, hx, hI, z1, z2, hwr, h0]
theorem pline_eq {l : List Int} {word : List UInt8} (hl : I64s l) (hs : l.length ≤ 2000000) (hw : word.length ≤ 100) :
    callL pg 254 [.str (bA word), LI l] gh = some (.tup [.str (bA (lineB word l)), B (byteAll l)], gh) := by
  have h := pline_loop (gh := gh) hl hs hw l.length 0 true (by omega)
  rw [List.take_zero, List.flatMap_nil, List.append_nil, List.drop_zero, Bool.true_and, Int.natCast_zero] at h
  have hn := tline_len l
  have z := strAdd (a := word ++ l.flatMap fun n => 32 :: itoaK n) (b := [10]) (by simp only [List.length_append, List.length_singleton]; omega)
  have e : lineB word l = (word ++ l.flatMap fun n => 32 :: itoaK n) ++ [10] := rfl
  rw [e]
  generalize (word ++ l.flatMap fun n => 32 :: itoaK n) = X at *
  generalize byteAll l = q at *
  have hlL : l.length = (l.map I).length := (List.length_map _).symm
  simp only [LI] at *
  rw [hlL] at h
  generalize l.map I = L at *
  have hk : runL pg f_trace_line_k1 ⟨[(6, .str (bA X)), (7, B q)], [], gh⟩ = some (.ret, ⟨[(4, .str (bA (X ++ [10]))), (5, B q)], [], gh⟩) := D_trace_line_k1_ok (by simp [D_trace_line_k1, z])
  refine callL_fn (fn := f_trace_line) (s := ⟨[(4, .str (bA (X ++ [10]))), (5, B q)], [], gh⟩) rfl rfl (D_trace_line_0_ok ?h3) ?r3
  case h3 => simp [D_trace_line_0, h, hk]
  case r3 => simp [finish, results, f_trace_line, resOfs, resOf, resOk]
theorem rline_loop {l : List Int} {word : List UInt8} (hl : I64s l) (hs : l.length ≤ 2000000) (hw : word.length ≤ 100) : ∀ (k i : Nat), i + k = l.length →
    runL pg f_ref_line_l1 ⟨[(0, .str (bA (word ++ (l.take i).flatMap fun n => 32 :: itoaK n))), (1, LI l), (5, I i)], [], gh⟩ =
      some (.normal, ⟨[(0, .str (bA (word ++ l.flatMap fun n => 32 :: itoaK n)))], [], gh⟩)
  | 0, i, hk => by
    have hlt : ¬ i < (l.map I).length := by rw [List.length_map]; omega
    rw [List.take_of_length_le (by omega)]
    simp only [LI]
    generalize l.map I = L at *
    refine (lp_exit (s1 := ?s1) (D_ref_line_b1_ok ?h1)).trans ?r1
    case h1 => simp [D_ref_line_b1, hlt]; rfl
    case r1 => simp [keep, stays]
  | k + 1, i, hk => by
    have hlt : i < l.length := by omega
    have hltL : decide (i < (l.map I).length) = true := by rw [List.length_map]; exact decide_eq_true hlt
    have hx : (l.map I)[i]? = some (I l[i]) := by simp [hlt]
    have hr := hl l[i] (List.getElem_mem hlt)
    have hI := digits_eq (gh := gh) hr.1 hr.2
    have hwr : IntKind.i64.wrap ((i : Int) + 1) = ((i + 1 : Nat) : Int) := wrap_nat (by simp only [Sz]; omega)
    have hT : word ++ (l.take (i + 1)).flatMap (fun n => 32 :: itoaK n) = (word ++ (l.take i).flatMap fun n => 32 :: itoaK n) ++ 32 :: itoaK l[i] := by
      rw [List.take_succ_eq_append_getElem hlt]; simp only [List.flatMap_append, List.flatMap_cons, List.flatMap_nil, List.append_nil, List.append_assoc, List.singleton_append, List.nil_append, List.cons_append]
    have hlen := tline_len (l.take (i + 1))
    have hlen2 : (l.take (i + 1)).length ≤ l.length := by simp; omega
    have ih := rline_loop hl hs hw k (i + 1) (by omega)
    have hz : (word ++ (l.take (i + 1)).flatMap (fun n => 32 :: itoaK n)).length ≤ 100 + 22 * l.length := by rw [List.length_append]; omega
    rw [hT] at ih hz
    simp only [List.length_append] at hz
    rw [← List.length_append] at hz
    generalize (word ++ (l.take i).flatMap fun n => 32 :: itoaK n) = X at *
    generalize l[i] = x at *
    generalize itoaK x = dx at *
    have z1 : binPV .add (.str (bA [32])) (.str (bA dx)) = some (.str (bA (32 :: dx))) := strAdd (a := [32]) (b := dx) (by simp at hz ⊢; omega)
    have z2 : binPV .add (.str (bA X)) (.str (bA (32 :: dx))) = some (.str (bA (X ++ 32 :: dx))) := strAdd (a := X) (b := 32 :: dx) (by simp at hz ⊢; omega)
    obtain ⟨u, hu⟩ : ∃ u : Int, ((i + 1 : Nat) : Int) = u := ⟨_, rfl⟩
    rw [hu] at hwr ih
    simp only [LI] at *
    generalize l.map I = L at *
    refine lp_next (D_ref_line_b1_ok ?h2) ih
    case h2 => simp [D_ref_line_b1, hltL, hx, hI, z1, z2, hwr]
theorem rline_eq {l : List Int} {word : List UInt8} (hl : I64s l) (hs : l.length ≤ 2000000) (hw : word.length ≤ 100) :
    callL pg 355 [.str (bA word), LI l] gh = some (.str (bA (lineB word l)), gh) := by
  have h := rline_loop (gh := gh) hl hs hw l.length 0 (by omega)
  rw [List.take_zero, List.flatMap_nil, List.append_nil, Int.natCast_zero] at h
  have hn := tline_len l
  have z := strAdd (a := word ++ l.flatMap fun n => 32 :: itoaK n) (b := [10]) (by simp only [List.length_append, List.length_singleton]; omega)
  have e : lineB word l = (word ++ l.flatMap fun n => 32 :: itoaK n) ++ [10] := rfl
  rw [e]
  generalize (word ++ l.flatMap fun n => 32 :: itoaK n) = X at *
  simp only [LI] at *
  generalize l.map I = L at *
  have hk : runL pg f_ref_line_k1 ⟨[(0, .str (bA X))], [], gh⟩ = some (.ret, ⟨[(4, .str (bA (X ++ [10])))], [], gh⟩) := D_ref_line_k1_ok (by simp [D_ref_line_k1, z])
  refine callL_fn (fn := f_ref_line) (s := ⟨[(4, .str (bA (X ++ [10])))], [], gh⟩) rfl rfl (D_ref_line_0_ok ?h3) ?r3
  case h3 => simp [D_ref_line_0, h, hk]
  case r3 => simp [finish, results, f_ref_line, resOfs, resOf, resOk]
end
end Go.Lw
end

/-! What the functions of package word come to. -/
section
namespace Go.Lw
open Go
def takesOf (k : Int) : Int :=
  if k < 4 then 0 else if k < 6 then 1 else if k < 19 then 2 else if k = 19 then 3 else if k = 20 then 2 else if k < 24 then 1 else 0
def wOk (k i w : Int) : Prop := if i < takesOf k then 1 ≤ w ∧ w ≤ 8 else w = 0
instance (k i w : Int) : Decidable (wOk k i w) := inferInstanceAs (Decidable (if i < takesOf k then 1 ≤ w ∧ w ≤ 8 else w = 0))
end Go.Lw
end

/-! What the document's functions of words come to. -/
section
namespace Go.Lw
open Go
theorem between_eq (n a b : Int) (gh : List GObj) : callL pg 50 [I n, I a, I b] gh = some (B (decide (a ≤ n ∧ n ≤ b)), gh) := by
  by_cases h : a ≤ n
  · refine callL_fn (fn := f_ref_between) (s := ?s1) rfl rfl (D_ref_between_0_ok ?h1) ?r1
    case h1 => simp [D_ref_between_0, h]; rfl
    case r1 => simp [finish, results, f_ref_between, resOfs, resOf, resOk, h]
  · refine callL_fn (fn := f_ref_between) (s := ?s2) rfl rfl (D_ref_between_0_ok ?h2) ?r2
    case h2 => simp [D_ref_between_0, h]; rfl
    case r2 => simp [finish, results, f_ref_between, resOfs, resOf, resOk, h]
end Go.Lw
end

/-! Traces as texts: Print, the program's and the document's. -/
section
namespace Go.Lw
open Go
abbrev LsI (ls : List (List Int)) : PV := .sl false 1 (ls.map fun l => LI l)
abbrev traceV (st : List Int) (ins : List (List Int)) : PV := .agg [LI st, LsI ins]
abbrev startW : List UInt8 := [115, 116, 97, 114, 116]
abbrev inW : List UInt8 := [105, 110]
abbrev manyB (st : List Int) (ins : List (List Int)) : Bool := decide (41 < ins.length) || decide (20 < st.length) || ins.any fun l => decide (20 < l.length)
abbrev textT (st : List Int) (ins : List (List Int)) : List UInt8 := lineB startW st ++ ins.flatMap (lineB inW)
def printT (st : List Int) (ins : List (List Int)) : List UInt8 × Int :=
  if manyB st ins then ([], 2) else if byteAll st && ins.all (fun l => byteAll l) then (textT st ins, 0) else ([], 3)
theorem lineB_len (w : List UInt8) (l : List Int) : (lineB w l).length ≤ w.length + 22 * l.length + 1 := by
  have := tline_len l
  simp only [lineB, List.length_append, List.length_singleton]; omega
theorem emptyBA : ByteArray.empty = bA [] := rfl
section
variable {gh : List GObj}
theorem pp_l1 {st : List Int} {ins : List (List Int)} (hn : ins.length ≤ 3000000) : ∀ (k i : Nat), i + k = ins.length →
    runL pg f_trace_Print_l1 ⟨[(1, .ptr false 0 0), (23, LsI ins), (24, I ins.length), (25, I i)], [[LI st, LsI ins]], gh⟩ =
      if (ins.drop i).any (fun l => decide (20 < l.length)) then some (.ret, ⟨[(2, .str (bA [])), (3, I 2)], [], gh⟩) else some (.normal, ⟨[(1, .ptr false 0 0)], [[LI st, LsI ins]], gh⟩)
  | 0, i, hk => by
    have hlt : ¬ (i : Int) < (ins.length : Int) := by omega
    rw [List.drop_eq_nil_of_le (by omega), List.any_nil, if_neg (by decide)]
    refine (lp_exit (s1 := ?s1) (D_trace_Print_b1_ok ?h1)).trans ?r1
    case h1 => simp only [D_trace_Print_b1, decide_eq_false hlt, br_false]; rfl
    case r1 => simp [keep, stays]
  | k + 1, i, hk => by
    have hlt : i < ins.length := by omega
    have hltI : (i : Int) < (ins.length : Int) := by omega
    have hx : (ins.map fun l => LI l)[i]? = some (LI ins[i]) := by simp [hlt]
    have hwr : IntKind.i64.wrap ((i : Int) + 1) = ((i + 1 : Nat) : Int) := wrap_nat (by simp only [Sz]; omega)
    have ih := pp_l1 (st := st) hn k (i + 1) (by omega)
    rw [List.drop_eq_getElem_cons hlt, List.any_cons]
    generalize ((ins.drop (i + 1)).any fun l => decide (20 < l.length)) = rest at *
    generalize ins[i] = l at *
    obtain ⟨u, hu⟩ : ∃ u : Int, ((i + 1 : Nat) : Int) = u := ⟨_, rfl⟩
    rw [hu] at hwr ih
    obtain ⟨n, hnn⟩ : ∃ n, l.length = n := ⟨_, rfl⟩
    have hlL : (l.map I).length = n := by rw [List.length_map, hnn]
    rw [hnn]
    simp only [LsI, LI] at *
    have hlI : ins.length = (ins.map fun l => PV.sl false 1 (l.map I)).length := (List.length_map _).symm
    rw [hlI] at ih hltI ⊢
    generalize (ins.map fun l => PV.sl false 1 (l.map I)) = L at *
    generalize l.map I = lL at *
    generalize st.map I = sL at *
    by_cases h20 : 20 < n
    · rw [decide_eq_true h20, Bool.true_or, if_pos rfl]
      have hd : decide ((20 : Int) < (n : Int)) = true := decide_eq_true (by omega)
      refine lp_ret (D_trace_Print_b1_ok ?h2)
      case h2 => simp [D_trace_Print_b1, hltI, hx, hlL, hd, emptyBA]
    · rw [decide_eq_false h20, Bool.false_or]
      have hd : decide ((20 : Int) < (n : Int)) = false := decide_eq_false (by omega)
      refine lp_next (D_trace_Print_b1_ok ?h3) ih
      case h3 => simp [D_trace_Print_b1, hltI, hx, hlL, hd, hwr]
theorem pp_l2 {ins : List (List Int)} {X : List UInt8} (hn : ins.length ≤ 41) (hl : ∀ l ∈ ins, I64s l ∧ l.length ≤ 20) (hX : X.length ≤ 1000) : ∀ (k i : Nat) (b : Bool), i + k = ins.length →
    runL pg f_trace_Print_l2 ⟨[(6, .str (bA (X ++ (ins.take i).flatMap (lineB inW)))), (7, B b), (40, LsI ins), (41, I ins.length), (42, I i)], [], gh⟩ =
      some (.normal, ⟨[(6, .str (bA (X ++ ins.flatMap (lineB inW)))), (7, B (b && (ins.drop i).all fun l => byteAll l))], [], gh⟩)
  | 0, i, b, hk => by
    have hlt : ¬ (i : Int) < (ins.length : Int) := by omega
    rw [List.take_of_length_le (by omega), List.drop_eq_nil_of_le (by omega)]
    refine (lp_exit (s1 := ?s1) (D_trace_Print_b2_ok ?h1)).trans ?r1
    case h1 => simp only [D_trace_Print_b2, decide_eq_false hlt, br_false]; rfl
    case r1 => simp [keep, stays]
  | k + 1, i, b, hk => by
    have hlt : i < ins.length := by omega
    have hltI : (i : Int) < (ins.length : Int) := by omega
    have hx : (ins.map fun l => LI l)[i]? = some (LI ins[i]) := by simp [hlt]
    have hr := hl ins[i] (List.getElem_mem hlt)
    have hI := pline_eq (gh := gh) (word := inW) hr.1 (by omega) (by decide)
    have hwr : IntKind.i64.wrap ((i : Int) + 1) = ((i + 1 : Nat) : Int) := wrap_nat (by simp only [Sz]; omega)
    have hT : X ++ (ins.take (i + 1)).flatMap (lineB inW) = (X ++ (ins.take i).flatMap (lineB inW)) ++ lineB inW ins[i] := by
      rw [List.take_succ_eq_append_getElem hlt]; simp only [List.flatMap_append, List.flatMap_cons, List.flatMap_nil, List.append_nil, List.append_assoc]
    have hlen : ∀ ls : List (List Int), (∀ l ∈ ls, l.length ≤ 20) → (ls.flatMap (lineB inW)).length ≤ 500 * ls.length := by
      intro ls
      induction ls with
      | nil => intro _; simp
      | cons a ls ih =>
        intro h
        have h1 := lineB_len inW a
        have h2 := h a (by simp)
        have h3 := ih (fun l hl => h l (by simp [hl]))
        simp only [List.flatMap_cons, List.length_append, List.length_cons]
        have h4 : inW.length = 2 := rfl
        omega
    have hlen1 := hlen (ins.take i) (fun l h => (hl l (List.mem_of_mem_take h)).2)
    have hlen2 := lineB_len inW ins[i]
    have h4 : inW.length = 2 := rfl
    have hlen3 : (ins.take i).length ≤ 41 := by simp; omega
    have ih := pp_l2 hn hl hX k (i + 1) (b && byteAll ins[i]) (by omega)
    rw [List.drop_eq_getElem_cons hlt, List.all_cons, ← Bool.and_assoc]
    have z1 := strAdd (a := X ++ (ins.take i).flatMap (lineB inW)) (b := lineB inW ins[i]) (by simp only [List.length_append]; omega)
    rw [hT] at ih
    generalize ((ins.drop (i + 1)).all fun l => byteAll l) = rest at *
    generalize (X ++ (ins.take i).flatMap (lineB inW)) = Y at *
    generalize lineB inW ins[i] = dx at *
    generalize byteAll ins[i] = q at *
    generalize ins[i] = l at *
    obtain ⟨u, hu⟩ : ∃ u : Int, ((i + 1 : Nat) : Int) = u := ⟨_, rfl⟩
    rw [hu] at hwr ih
    simp only [LsI, LI] at *
    have hlI : ins.length = (ins.map fun l => PV.sl false 1 (l.map I)).length := (List.length_map _).symm
    rw [hlI] at ih hltI ⊢
    generalize (ins.map fun l => PV.sl false 1 (l.map I)) = L at *
    generalize l.map I = lL at *
    refine lp_next (D_trace_Print_b2_ok ?h2) ih
    case h2 => cases b <;> simp [D_trace_Print_b2, hltI, hx, hI, z1, hwr]
theorem pprint_eq {st : List Int} {ins : List (List Int)} (hs : I64s st) (hi : ∀ l ∈ ins, I64s l) (hn : ins.length ≤ 3000000) :
    callL pg 246 [traceV st ins] gh = some (.tup [.str (bA (printT st ins).1), I (printT st ins).2], gh) := by
  have hlI : (ins.map fun l => LI l).length = ins.length := List.length_map _
  have hlS : (st.map I).length = st.length := List.length_map _
  have f1 := pp_l1 (gh := gh) (st := st) hn ins.length 0 (by omega)
  rw [List.drop_zero, Int.natCast_zero] at f1
  unfold printT manyB
  by_cases h1 : 41 < ins.length
  · rw [if_pos (by simp [h1])]
    have h1 : decide ((41 : Int) < (ins.length : Int)) = true := decide_eq_true (by omega)
    rw [← hlI] at h1
    simp only [traceV, LsI, LI] at *
    generalize (ins.map fun l => PV.sl false 1 (l.map I)) = L at *
    generalize st.map I = sL at *
    refine callL_fn (fn := f_trace_Print) (s := ?s1) rfl rfl (D_trace_Print_0_ok ?h3) ?r3
    case h3 => simp [D_trace_Print_0, h1, emptyBA]; rfl
    case r3 => simp [finish, results, f_trace_Print, resOfs, resOf, resOk]
  by_cases h2 : 20 < st.length
  · rw [if_pos (by simp [h2])]
    have h1 : decide ((41 : Int) < (ins.length : Int)) = false := decide_eq_false (by omega)
    have h2 : decide ((20 : Int) < (st.length : Int)) = true := decide_eq_true (by omega)
    rw [← hlI] at h1
    rw [← hlS] at h2
    simp only [traceV, LsI, LI] at *
    generalize (ins.map fun l => PV.sl false 1 (l.map I)) = L at *
    generalize st.map I = sL at *
    refine callL_fn (fn := f_trace_Print) (s := ?s2) rfl rfl (D_trace_Print_0_ok ?h4) ?r4
    case h4 => simp [D_trace_Print_0, h1, h2, emptyBA]; rfl
    case r4 => simp [finish, results, f_trace_Print, resOfs, resOf, resOk]
  by_cases h3 : (ins.any fun l => decide (20 < l.length)) = true
  · rw [if_pos (by rw [h3, Bool.or_true])]
    rw [if_pos h3] at f1
    have h1 : decide ((41 : Int) < (ins.length : Int)) = false := decide_eq_false (by omega)
    have h2 : decide ((20 : Int) < (st.length : Int)) = false := decide_eq_false (by omega)
    rw [← hlI] at h1 f1
    rw [← hlS] at h2
    simp only [traceV, LsI, LI] at *
    generalize (ins.map fun l => PV.sl false 1 (l.map I)) = L at *
    generalize st.map I = sL at *
    refine callL_fn (fn := f_trace_Print) (s := ?s5) rfl rfl (D_trace_Print_0_ok ?h5) ?r5
    case h5 => simp [D_trace_Print_0, h1, h2, f1, emptyBA]; rfl
    case r5 => simp [finish, results, f_trace_Print, resOfs, resOf, resOk]
  rw [Bool.not_eq_true] at h3
  rw [h3, if_neg (by simp [h1, h2])]
  rw [if_neg (by rw [h3]; decide)] at f1
  have hall : ∀ l ∈ ins, I64s l ∧ l.length ≤ 20 := by
    intro l hl
    refine ⟨hi l hl, ?_⟩
    have := List.any_eq_false.1 h3 l hl
    simp at this; omega
  have hX := lineB_len startW st
  have h5 : startW.length = 5 := rfl
  have f2 := pp_l2 (gh := gh) (X := lineB startW st) (by omega) hall (by omega) ins.length 0 (byteAll st) (by omega)
  rw [List.take_zero, List.flatMap_nil, List.append_nil, List.drop_zero, Int.natCast_zero] at f2
  have fl := pline_eq (gh := gh) (word := startW) hs (by omega) (by decide)
  have eT : textT st ins = lineB startW st ++ ins.flatMap (lineB inW) := rfl
  rw [eT]
  generalize (ins.all fun l => byteAll l) = q2 at *
  generalize byteAll st = q1 at *
  generalize lineB startW st = X at *
  generalize (X ++ ins.flatMap (lineB inW)) = T at *
  have h1 : decide ((41 : Int) < (ins.length : Int)) = false := decide_eq_false (by omega)
  have h2 : decide ((20 : Int) < (st.length : Int)) = false := decide_eq_false (by omega)
  rw [← hlI] at h1 f1 f2
  rw [← hlS] at h2
  simp only [traceV, LsI, LI] at *
  generalize (ins.map fun l => PV.sl false 1 (l.map I)) = L at *
  generalize st.map I = sL at *
  have k2 : runL pg f_trace_Print_k2 ⟨[(6, .str (bA T)), (7, B (q1 && q2))], [], gh⟩ = some (.ret, ⟨[(2, .str (bA (if q1 && q2 then (T, (0 : Int)) else ([], 3)).1)), (3, I (if q1 && q2 then (T, (0 : Int)) else ([], 3)).2)], [], gh⟩) := by
    refine D_trace_Print_k2_ok ?_
    cases (q1 && q2) <;> simp [D_trace_Print_k2] <;> rfl
  have k1 : runL pg f_trace_Print_k1 ⟨[(1, .ptr false 0 0)], [[.sl false 1 sL, .sl false 1 L]], gh⟩ = some (.ret, ⟨[(2, .str (bA (if q1 && q2 then (T, (0 : Int)) else ([], 3)).1)), (3, I (if q1 && q2 then (T, (0 : Int)) else ([], 3)).2)], [], gh⟩) := by
    refine D_trace_Print_k1_ok ?_
    generalize (if q1 && q2 then (T, (0 : Int)) else ([], 3)) = R at *
    simp [D_trace_Print_k1, fl, f2, k2]
  generalize (if q1 && q2 then (T, (0 : Int)) else ([], 3)) = R at *
  refine callL_fn (fn := f_trace_Print) (s := ?s6) rfl rfl (D_trace_Print_0_ok ?h6) ?r6
  case h6 => simp [D_trace_Print_0, h1, h2, f1, k1]; rfl
  case r6 => simp [finish, results, f_trace_Print, resOfs, resOf, resOk]
theorem rp_l2 {ls : List (List Int)} {l : List Int} {m : Bool} {X : List UInt8} {i : Nat} (hi : ls[i]? = some l) (hl : l.length ≤ 2000000) : ∀ (k j : Nat) (far : Bool), j + k = l.length →
    runL pg f_ref_PrintTrace_l2 ⟨[(4, .sl true 1 (ls.map fun l => LI l)), (5, B m), (6, B far), (7, .str (bA X)), (8, I i), (9, I j)], [], gh⟩ =
      some (.normal, ⟨[(4, .sl true 1 (ls.map fun l => LI l)), (5, B m), (6, B (far || !byteAll (l.drop j))), (7, .str (bA X)), (8, I i)], [], gh⟩) := by
  have hx : (ls.map fun l => LI l)[i]? = some (LI l) := by rw [List.getElem?_map, hi]; rfl
  intro k
  induction k with
  | zero =>
    intro j far hk
    have hlt : ¬ j < (l.map I).length := by rw [List.length_map]; omega
    rw [List.drop_eq_nil_of_le (by omega)]
    simp only [LI] at *
    generalize (ls.map fun l => PV.sl false 1 (l.map I)) = L at *
    generalize l.map I = lL at *
    refine (lp_exit (s1 := ?s1) (D_ref_PrintTrace_b2_ok ?h1)).trans ?r1
    case h1 => simp [D_ref_PrintTrace_b2, hx, hlt]; rfl
    case r1 => simp [keep, stays]
  | succ k ih =>
    intro j far hk
    have hlt : j < l.length := by omega
    have hltL : decide (j < (l.map I).length) = true := by rw [List.length_map]; exact decide_eq_true hlt
    have hy : (l.map I)[j]? = some (I l[j]) := by simp [hlt]
    have hwr : IntKind.i64.wrap ((j : Int) + 1) = ((j + 1 : Nat) : Int) := wrap_nat (by simp only [Sz]; omega)
    have hB := between_eq l[j] 0 255 gh
    have ih2 := ih (j + 1) (far || !decide (0 ≤ l[j] ∧ l[j] ≤ 255)) (by omega)
    rw [List.drop_eq_getElem_cons hlt]
    have e : byteAll (l[j] :: l.drop (j + 1)) = (decide (0 ≤ l[j] ∧ l[j] ≤ 255) && byteAll (l.drop (j + 1))) := rfl
    rw [e, Bool.not_and, ← Bool.or_assoc]
    generalize byteAll (l.drop (j + 1)) = rest at *
    generalize decide (0 ≤ l[j] ∧ l[j] ≤ 255) = q at *
    generalize l[j] = x at *
    obtain ⟨u, hu⟩ : ∃ u : Int, ((j + 1 : Nat) : Int) = u := ⟨_, rfl⟩
    rw [hu] at hwr ih2
    simp only [LI] at *
    generalize (ls.map fun l => PV.sl false 1 (l.map I)) = L at *
    generalize l.map I = lL at *
    refine lp_next (D_ref_PrintTrace_b2_ok ?h2) ih2
    case h2 => cases far <;> simp [D_ref_PrintTrace_b2, hx, hltL, hy, hB, hwr]
theorem rp_step {ls : List (List Int)} {l : List Int} {X : List UInt8} {i : Nat} {far : Bool} (hi : ls[i]? = some l) (hI : I64s l) (hl : l.length ≤ 2000000) (hX : X.length ≤ 1000000) (hls : ls.length ≤ 3000000) :
    runL pg f_ref_PrintTrace_b1 ⟨[(4, .sl true 1 (ls.map fun l => LI l)), (5, B false), (6, B far), (7, .str (bA X)), (8, I i)], [], gh⟩ =
      some (.normal, ⟨[(4, .sl true 1 (ls.map fun l => LI l)), (5, B (decide (20 < l.length))), (6, B (far || !byteAll l)), (7, .str (bA (X ++ lineB (if i = 0 then startW else inW) l))), (8, I ((i + 1 : Nat) : Int))], [], gh⟩) := by
  have hx : (ls.map fun l => LI l)[i]? = some (LI l) := by rw [List.getElem?_map, hi]; rfl
  have hlt0 : i < ls.length := by
    rcases Nat.lt_or_ge i ls.length with h | h
    · exact h
    · rw [List.getElem?_eq_none h] at hi; cases hi
  have hlt : decide (i < (ls.map fun l => LI l).length) = true := by rw [List.length_map]; exact decide_eq_true hlt0
  have hlen := lineB_len (if i = 0 then startW else inW) l
  have hw : (if i = 0 then startW else inW).length ≤ 5 := by split <;> decide
  have hwr : IntKind.i64.wrap ((i : Int) + 1) = ((i + 1 : Nat) : Int) := wrap_nat (by simp only [Sz]; omega)
  have f2 := rp_l2 (gh := gh) (m := decide (20 < l.length)) (X := X) hi hl l.length 0 far (by omega)
  rw [List.drop_zero, Int.natCast_zero] at f2
  have fl := rline_eq (gh := gh) (word := if i = 0 then startW else inW) hI hl (by omega)
  have z := strAdd (a := X) (b := lineB (if i = 0 then startW else inW) l) (by omega)
  have hi0 : ((i : Int) == 0) = decide (i = 0) := by
    by_cases h : i = 0
    · subst h; rfl
    · rw [decide_eq_false h]; simp; omega
  generalize lineB (if i = 0 then startW else inW) l = dx at *
  generalize byteAll l = q at *
  have hlL : l.length = (l.map I).length := (List.length_map _).symm
  rw [hlL] at f2 ⊢
  simp only [LI] at *
  generalize (ls.map fun l => PV.sl false 1 (l.map I)) = L at *
  generalize l.map I = lL at *
  have k1 : runL pg f_ref_PrintTrace_k1 ⟨[(4, .sl true 1 L), (5, B (decide (20 < lL.length))), (6, B (far || !q)), (7, .str (bA X)), (8, I i)], [], gh⟩ = some (.normal, ⟨[(4, .sl true 1 L), (5, B (decide (20 < lL.length))), (6, B (far || !q)), (7, .str (bA (X ++ dx))), (8, I i)], [], gh⟩) := by
    refine D_ref_PrintTrace_k1_ok ?_
    generalize decide (20 < lL.length) = m at *
    generalize (far || !q) = fq at *
    by_cases h0 : i = 0
    · rw [if_pos h0] at fl
      simp only [D_ref_PrintTrace_k1, hi0, decide_eq_true h0]
      simp [hx, fl, z]
    · rw [if_neg h0] at fl
      simp only [D_ref_PrintTrace_k1, hi0, decide_eq_false h0]
      simp [hx, fl, z]
  have k2 : ∀ Y : List UInt8, runL pg f_ref_PrintTrace_k2 ⟨[(4, .sl true 1 L), (5, B (decide (20 < lL.length))), (6, B (far || !q)), (7, .str (bA Y)), (8, I i)], [], gh⟩ = some (.normal, ⟨[(4, .sl true 1 L), (5, B (decide (20 < lL.length))), (6, B (far || !q)), (7, .str (bA Y)), (8, I ((i + 1 : Nat) : Int))], [], gh⟩) := by
    intro Y
    refine D_ref_PrintTrace_k2_ok ?_
    simp only [D_ref_PrintTrace_k2, hwr, stK_sl]
  refine D_ref_PrintTrace_b1_ok ?_
  obtain ⟨u, hu⟩ : ∃ u : Int, ((i + 1 : Nat) : Int) = u := ⟨_, rfl⟩
  rw [hu] at k2 ⊢
  have f2' := f2
  generalize (far || !q) = fq at *
  have hde : decide (20 < (lL.length : Int)) = decide (20 < lL.length) := decide_eq_decide.2 (by omega)
  simp [D_ref_PrintTrace_b1, hlt, hx, hde, f2, k1, k2]
end
end Go.Lw
end

/-! Traces as texts: the document's Print; and it is the program's. -/
section
namespace Go.Lw
open Go
section
variable {gh : List GObj}
theorem rp_end {ls : List (List Int)} {m far : Bool} {X : List UInt8} {i : Nat} (h : m = true ∨ ls.length ≤ i) :
    runL pg f_ref_PrintTrace_l1 ⟨[(4, .sl true 1 (ls.map fun l => LI l)), (5, B m), (6, B far), (7, .str (bA X)), (8, I i)], [], gh⟩ =
      some (.normal, ⟨[(5, B m), (6, B far), (7, .str (bA X))], [], gh⟩) := by
  by_cases hlt : i < ls.length
  · have hm : m = true := h.resolve_right (by omega)
    subst hm
    have hlt : decide (i < (ls.map fun l => LI l).length) = true := by rw [List.length_map]; exact decide_eq_true hlt
    generalize (ls.map fun l => LI l) = L at *
    refine (lp_exit (s1 := ?s1) (D_ref_PrintTrace_b1_ok ?h1)).trans ?r1
    case h1 => simp [D_ref_PrintTrace_b1, hlt]; rfl
    case r1 => simp [keep, stays]
  · have hlt : ¬ i < (ls.map fun l => LI l).length := by rw [List.length_map]; exact hlt
    generalize (ls.map fun l => LI l) = L at *
    refine (lp_exit (s1 := ?s2) (D_ref_PrintTrace_b1_ok ?h2)).trans ?r2
    case h2 => simp [D_ref_PrintTrace_b1, hlt]; rfl
    case r2 => simp [keep, stays]
theorem rp_loop {ls : List (List Int)} (hI : ∀ l ∈ ls, I64s l ∧ l.length ≤ 2000000) (hls : ls.length ≤ 3000000) : ∀ (k i : Nat) (far : Bool) (X : List UInt8), i + k = ls.length → 1 ≤ i → X.length + 500 * k ≤ 900000 →
    ∃ (f2 : Bool) (T : List UInt8), runL pg f_ref_PrintTrace_l1 ⟨[(4, .sl true 1 (ls.map fun l => LI l)), (5, B false), (6, B far), (7, .str (bA X)), (8, I i)], [], gh⟩ =
      some (.normal, ⟨[(5, B ((ls.drop i).any fun l => decide (20 < l.length))), (6, B f2), (7, .str (bA T))], [], gh⟩) ∧
      (((ls.drop i).any fun l => decide (20 < l.length)) = false → f2 = (far || !(ls.drop i).all fun l => byteAll l) ∧ T = X ++ (ls.drop i).flatMap (lineB inW))
  | 0, i, far, X, hk, h1, hX => by
    rw [List.drop_eq_nil_of_le (by omega)]
    refine ⟨far, X, ?_, fun _ => by simp⟩
    exact rp_end (.inr (by omega))
  | k + 1, i, far, X, hk, h1, hX => by
    have hlt : i < ls.length := by omega
    have hi : ls[i]? = some ls[i] := List.getElem?_eq_getElem hlt
    have hm := hI ls[i] (List.getElem_mem hlt)
    have hs := rp_step (gh := gh) (X := X) (far := far) hi hm.1 hm.2 (by omega) hls
    rw [if_neg (by omega)] at hs
    rw [List.drop_eq_getElem_cons hlt, List.any_cons]
    have hlen := lineB_len inW ls[i]
    have h2 : inW.length = 2 := rfl
    by_cases h20 : 20 < ls[i].length
    · rw [decide_eq_true h20] at hs ⊢
      refine ⟨_, _, lp_next hs (rp_end (.inl rfl)), fun h => by simp at h⟩
    · rw [decide_eq_false h20] at hs ⊢
      obtain ⟨f2, T, e1, e2⟩ := rp_loop hI hls k (i + 1) (far || !byteAll ls[i]) (X ++ lineB inW ls[i]) (by omega) (by omega) (by rw [List.length_append]; omega)
      refine ⟨f2, T, lp_next hs e1, fun h => ?_⟩
      rw [Bool.false_or] at h
      obtain ⟨e3, e4⟩ := e2 h
      refine ⟨?_, ?_⟩
      · rw [e3, List.all_cons, Bool.not_and, Bool.or_assoc]
      · rw [e4, List.flatMap_cons, List.append_assoc]
theorem rprint_eq {st : List Int} {ins : List (List Int)} (hs : I64s st) (hi : ∀ l ∈ ins, I64s l ∧ l.length ≤ 2000000) (hst : st.length ≤ 2000000) (hn : ins.length ≤ 2000000) :
    callL pg 351 [traceV st ins] gh = some (.tup [.str (bA (printT st ins).1), I (printT st ins).2], gh) := by
  have hmap : ((st :: ins).map fun l => LI l) = [LI st] ++ ins.map fun l => LI l := rfl
  have hsz : (([LI st] : List PV).length + (ins.map fun l => LI l).length) * 24 ≤ maxBytes := by
    rw [List.length_map]; simp only [List.length_singleton, maxBytes]; omega
  have hlen : ([LI st] ++ ins.map fun l => LI l).length = ins.length + 1 := by simp
  have hall : ∀ l ∈ st :: ins, I64s l ∧ l.length ≤ 2000000 := by
    intro l hl
    rcases List.mem_cons.1 hl with h | h
    · subst h; exact ⟨hs, hst⟩
    · exact hi l h
  have key : ∃ (m f2 : Bool) (T : List UInt8), runL pg f_ref_PrintTrace_l1 ⟨[(4, .sl true 1 ([LI st] ++ ins.map fun l => LI l)), (5, B (decide (42 < ins.length + 1))), (6, B false), (7, .str (bA [])), (8, I 0)], [], gh⟩ =
      some (.normal, ⟨[(5, B m), (6, B f2), (7, .str (bA T))], [], gh⟩) ∧ (if m then (([] : List UInt8), (2 : Int)) else if f2 then ([], 3) else (T, 0)) = printT st ins := by
    rw [← hmap]
    unfold printT manyB
    by_cases h42 : 42 < ins.length + 1
    · rw [decide_eq_true h42, if_pos (by simp; omega)]
      exact ⟨_, _, _, rp_end (i := 0) (.inl rfl), rfl⟩
    rw [decide_eq_false h42]
    have h41 : ¬ 41 < ins.length := by omega
    rw [decide_eq_false h41, Bool.false_or]
    have hst0 := rp_step (gh := gh) (ls := st :: ins) (l := st) (X := []) (i := 0) (far := false) rfl hs hst (by simp) (by simp; omega)
    rw [if_pos rfl, List.nil_append, Bool.false_or] at hst0
    by_cases h20 : 20 < st.length
    · rw [decide_eq_true h20] at hst0 ⊢
      rw [Bool.true_or, if_pos rfl]
      exact ⟨_, _, _, lp_next hst0 (rp_end (.inl rfl)), rfl⟩
    · rw [decide_eq_false h20] at hst0 ⊢
      have hX := lineB_len startW st
      have h5 : startW.length = 5 := rfl
      obtain ⟨f2, T, e1, e2⟩ := rp_loop (gh := gh) (ls := st :: ins) hall (by simp; omega) ins.length 1 (!byteAll st) (lineB startW st) (by simp; omega) (by omega) (by omega)
      rw [Bool.false_or]
      refine ⟨_, f2, T, lp_next hst0 e1, ?_⟩
      have hd : (st :: ins).drop 1 = ins := rfl
      rw [hd] at e2 ⊢
      cases hm : (ins.any fun l => decide (20 < l.length)) with
      | true => rfl
      | false =>
        obtain ⟨e3, e4⟩ := e2 hm
        rw [e3, e4]
        cases byteAll st <;> cases (ins.all fun l => byteAll l) <;> rfl
  obtain ⟨m, f2, T, e1, e2⟩ := key
  rw [← e2]
  have k3 : runL pg f_ref_PrintTrace_k3 ⟨[(5, B m), (6, B f2), (7, .str (bA T))], [], gh⟩ = some (.ret, ⟨[(2, .str (bA (if m then (([] : List UInt8), (2 : Int)) else if f2 then ([], 3) else (T, 0)).1)), (3, I (if m then (([] : List UInt8), (2 : Int)) else if f2 then ([], 3) else (T, 0)).2)], [], gh⟩) := by
    refine D_ref_PrintTrace_k3_ok ?_
    cases m <;> cases f2 <;> rfl
  generalize (if m then (([] : List UInt8), (2 : Int)) else if f2 then ([], 3) else (T, 0)) = R at *
  have hd : decide ((42 : Int) < ((([LI st] ++ ins.map fun l => LI l).length : Nat) : Int)) = decide (42 < ins.length + 1) := decide_eq_decide.2 (by rw [hlen]; omega)
  generalize decide (42 < ins.length + 1) = mm at *
  simp only [traceV, LsI, LI] at *
  generalize (ins.map fun l => PV.sl false 1 (l.map I)) = L at *
  generalize st.map I = sL at *
  refine callL_fn (fn := f_ref_PrintTrace) (s := ?s1) rfl rfl (D_ref_PrintTrace_0_ok ?h1) ?r1
  case h1 =>
    have hsz2 : (1 + L.length) * 24 ≤ maxBytes := by simpa using hsz
    have hb : (bA [] : ByteArray) = ByteArray.empty := rfl
    rw [hb] at e1
    simp only [List.singleton_append, List.length_cons, Int.natCast_add, Int.natCast_one] at e1 hd
    simp [D_ref_PrintTrace_0, hsz2, hd, e1, k3]; rfl
  case r1 => simp [finish, results, f_ref_PrintTrace, resOfs, resOf, resOk]
end
end Go.Lw
end

/-! traceBegun, reckoned. -/
section
namespace Go.Lw
open Go
set_option maxRecDepth 100000 in
theorem traceBegun_true : callL pg 242 [] [] = some (.bool true, []) := says_yes (n := 2000) (by kernel_rfl)
end Go.Lw
end

/-! Graphs: maps whose keys are Ands, and the check of a graph. -/
section
namespace Go.Lw
open Go
def badA (ins : Int) (i : Nat) (x : Int × Int) : Prop := x.2 ≤ x.1 ∨ x.1 < 2 ∨ 2 * (1 + ins + i) ≤ x.2 ∨ x.1 / 2 = x.2 / 2
instance (ins : Int) (i : Nat) (x : Int × Int) : Decidable (badA ins i x) := inferInstanceAs (Decidable (_ ∨ _))
section
variable {ins : Int} {ands : List (Int × Int)} {gh : List GObj}
end
end Go.Lw
end

/-! Clauses: what the program makes and checks. -/
section
namespace Go.Lw
open Go
section
variable {gh : List GObj} {x y : GObj}
end
section
variable {ins : Int} {ands : List (Int × Int)} {gh : List GObj}
def SL (cls : List (List Int)) : Prop := ∀ l ∈ cls, Sz l.length
end
end Go.Lw
end

/-! Clauses: what the document makes and checks. -/
section
namespace Go.Lw
open Go
abbrev LLI (cls : List (List Int)) : List PV := cls.map fun l => LI l
section
variable {ins : Int} {ands : List (Int × Int)} {gh : List GObj}
theorem SameInts_loop {v : List Int} (hs : Sz v.length) : ∀ k i, i + k = v.length →
    runL pg f_ref_SameInts_l1 ⟨[(0, LI v), (1, LI v), (5, I (i : Int))], [], gh⟩ = some (.normal, ⟨[], [], gh⟩)
  | 0, i, h => by
    have hlt : ¬ i < v.length := by omega
    refine (lp_exit (s1 := ?s1) (D_ref_SameInts_b1_ok ?h1)).trans ?r1
    case h1 => simp [D_ref_SameInts_b1, hlt]; rfl
    case r1 => simp [keep]
  | k + 1, i, h => by
    have hlt : i < v.length := by omega
    have e3 : IntKind.i64.wrap ((i : Int) + 1) = ((i + 1 : Nat) : Int) := wrap_nat (by simp only [Sz] at hs ⊢; omega)
    refine lp_next (s1 := ⟨[(0, LI v), (1, LI v), (5, I ((i + 1 : Nat) : Int))], [], gh⟩) (D_ref_SameInts_b1_ok ?h2) (SameInts_loop hs k (i + 1) (by omega))
    case h2 => simp [D_ref_SameInts_b1, hlt, e3]
theorem SameInts_refl {v : List Int} (hs : Sz v.length) : callL pg 46 [LI v, LI v] gh = some (B true, gh) := by
  have h := SameInts_loop (gh := gh) hs v.length 0 (by omega)
  simp only [Int.natCast_zero] at h
  have hk := D_ref_SameInts_k1_ok (pg := pg) (gh := gh) (e := .ret) (s := ⟨[(4, B true)], [], gh⟩) rfl
  refine callL_fn (fn := f_ref_SameInts) (s := ?s1) rfl rfl (D_ref_SameInts_0_ok ?h1) ?r1
  case h1 => simp [D_ref_SameInts_0, h, hk]; rfl
  case r1 => simp [finish, results, f_ref_SameInts, resOfs, resOf, resOk]
theorem SameLists_loop {cls : List (List Int)} (hs : SL cls) (hz : Sz cls.length) : ∀ k i, i + k = cls.length →
    runL pg f_ref_SameLists_l1 ⟨[(0, .sl false 1 (LLI cls)), (1, .sl false 1 (LLI cls)), (5, I (i : Int))], [], gh⟩ = some (.normal, ⟨[], [], gh⟩)
  | 0, i, h => by
    have hlt : ¬ i < cls.length := by omega
    refine (lp_exit (s1 := ?s1) (D_ref_SameLists_b1_ok ?h1)).trans ?r1
    case h1 => simp [D_ref_SameLists_b1, hlt]; rfl
    case r1 => simp [keep]
  | k + 1, i, h => by
    have hlt : i < cls.length := by omega
    have e3 : IntKind.i64.wrap ((i : Int) + 1) = ((i + 1 : Nat) : Int) := wrap_nat (by simp only [Sz] at hz ⊢; omega)
    have hx : (cls.map fun l => LI l)[i]? = some (LI cls[i]) := by simp [List.getElem?_eq_getElem hlt]
    have h1 := SameInts_refl (gh := gh) (hs _ (List.getElem_mem hlt))
    refine lp_next (s1 := ⟨[(0, .sl false 1 (LLI cls)), (1, .sl false 1 (LLI cls)), (5, I ((i + 1 : Nat) : Int))], [], gh⟩) (D_ref_SameLists_b1_ok ?h2) (SameLists_loop hs hz k (i + 1) (by omega))
    case h2 => simp [D_ref_SameLists_b1, hlt, hx, h1, e3, -List.getElem?_map]
theorem SameLists_refl {cls : List (List Int)} (hs : SL cls) (hz : Sz cls.length) : callL pg 95 [.sl false 1 (LLI cls), .sl false 1 (LLI cls)] gh = some (B true, gh) := by
  have h := SameLists_loop (gh := gh) hs hz cls.length 0 (by omega)
  simp only [Int.natCast_zero] at h
  have hk := D_ref_SameLists_k1_ok (pg := pg) (gh := gh) (e := .ret) (s := ⟨[(4, B true)], [], gh⟩) rfl
  generalize LLI cls = L at *
  refine callL_fn (fn := f_ref_SameLists) (s := ?s1) rfl rfl (D_ref_SameLists_0_ok ?h1) ?r1
  case h1 => simp [D_ref_SameLists_0, h, hk]; rfl
  case r1 => simp [finish, results, f_ref_SameLists, resOfs, resOf, resOk]
end
end Go.Lw
end
