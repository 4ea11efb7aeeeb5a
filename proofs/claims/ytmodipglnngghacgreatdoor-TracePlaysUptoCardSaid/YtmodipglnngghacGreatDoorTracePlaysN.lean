/-
  The texts that the proof stands on, part 14.
-/
import Derived.Test.YtmodipglnngghacGreatDoorTracePlaysM
import Derived.Tactics
set_option linter.unusedVariables false
set_option linter.unusedSimpArgs false
set_option linter.unnecessarySimpa false

/-! Every operation of the machine, calls too, does what its Go operation does. -/
section
namespace Go.Lw
open Go Go.RowKit
section
variable {fi : FI} {M M' : Mem} {w w' : World} {P : Program} {s s' : St} {a : Act} {cf : CallF}
def CallOk (P : Program) (fi : FI) (F : Nat) (vs : List PV) (gh : List GObj) (r : PV) (gh' : List GObj) : Prop :=
  ∀ (M : Mem) (w : World) (args : List Value), GI fi M w gh → M.lb = [] → (∀ b l, M.own b = some l → ∃ i j, l = .gh i j) → args.length = vs.length →
    (∀ (i : Nat) (p : PV) (v : Value), vs[i]? = some p → args[i]? = some v → RepP fi M w p v) →
    Calls P F args.toArray w fun e w' => ∃ v M', e = .returned v ∧ GI fi M' w' gh' ∧ M'.lb = [] ∧ resOk r = true ∧ RepAt fi M' w' Loc.res r v ∧ Kp M w M' w'
def CfOk (P : Program) (fi : FI) (cf : CallF) : Prop :=
  ∀ f vs gh r gh' F, cf f vs gh = some (r, gh') → (∀ p ∈ vs, argOk p = true) → fi f = some F →
    (∃ fn c, P.funcs[F]? = some fn ∧ (fn.name == "runtime.NumGoroutine") = false ∧ fn.body = some c) ∧ CallOk P fi F vs gh r gh'
def mOpC (P : Program) (fi : FI) (i : IOp) (op : Op) : Bool :=
  match i, op with
  | .call _ _ f xs, .call { callee := .value (.func F), args, .. } | .callP _ f xs _, .call { callee := .value (.func F), args, .. } | .callR _ f xs _ _, .call { callee := .value (.func F), args, .. } | .callF _ f xs, .call { callee := .value (.func F), args, .. } => fi f == some F && mXs fi xs args.toList
  | .callv _ _ fv xs, .call { callee := .value y, args, .. } | .callE _ fv xs, .call { callee := .value y, args, .. } => mX fi fv y && mXs fi xs args.toList
  | .loadN d agg k x _, op => mOp P fi (.load d agg k x) op
  | .loadL d x, op => mOp P fi (.loadT d x) op
  | .appendE d bytes y x, op => mOp P fi (.append d 1 bytes y x) op
  | .loadKB d x _, op => mOp P fi (.load d false 1 x) op
  | .loadTB d x _ _, op => mOp P fi (.loadT d x) op
  | .loadB d agg k x _, op => mOp P fi (.load d agg k x) op
  | .loadJ d agg k x, op => mOp P fi (.load d agg k x) op
  | .appendP d bytes y x _, op => mOp P fi (.append d 1 bytes y x) op
  | .mkarr d z bytes zero l, op => mOp P fi (.mksl d true z bytes zero l) op
  | .buildA d z ps, op => mOp P fi (.buildT d z ps) op
  | .appendK d bytes y x, op => mOp P fi (.append d 1 bytes y x) op
  | .appendN d bytes y x, op => mOp P fi (.append d 1 bytes y x) op
  | .buildSlK d els, op => mOp P fi (.buildSl d 1 els) op
  | .loadK d x, op => mOp P fi (.load d false 1 x) op
  | .loadH d x, op => mOp P fi (.load d false 1 x) op
  | .storeK y x, op => mOp P fi (.store false 1 y x) op
  | i, op => mOp P fi i op
theorem jlm {F : Nat} {fn : Func} {c : Code} (hf : P.funcs[F]? = some fn) (hn : (fn.name == "runtime.NumGoroutine") = false) (hb : fn.body = some c) (args : Array Value) (w : World) :
    (callFunc F args).run P w = .ok (.enter F args) w := by
  have h1 : fn.name ≠ "runtime.NumGoroutine" := by simpa using hn
  simp [callFunc, hf, h1, hb]
theorem RepE.fnInv {f : Nat} {cs : List PV} {v : Value} (h : RepE fi M w (.fn f cs) v) : ∃ F vs, fi f = some F ∧ v = .func (.func F) #[] (vs : List Value).toArray ∧ vs.length = cs.length ∧ cs.all argOk = true ∧
    ∀ (i : Nat) (c : PV) (u : Value), cs[i]? = some c → vs[i]? = some u → RepP fi M w c u := by
  cases (show RepP fi M w (.fn f cs) v from h) with
  | fn _ F _ vs hf hl h1 h2 => exact ⟨F, vs, hf, rfl, hl, h1, h2⟩
theorem RepE.bfnInv {f : Nat} {cs : List PV} {v : Value} (h : RepE fi M w (.bfn f cs) v) : ∃ F vs, fi f = some F ∧ v = .func (.func F) (vs : List Value).toArray #[] ∧ vs.length = cs.length ∧ cs.all argOk = true ∧
    ∀ (i : Nat) (c : PV) (u : Value), cs[i]? = some c → vs[i]? = some u → RepP fi M w c u := by
  cases (show RepP fi M w (.bfn f cs) v from h) with
  | bfn _ F _ vs hf hl h1 h2 => exact ⟨F, vs, hf, rfl, hl, h1, h2⟩
theorem jtk {g : Bool} {p : PV} {v : Value} (h : RepP fi M w p v) (hg : g = false → p.noG = true) : RepP fi (M.callee g) w p v := by
  cases hgb : g with
  | true => subst hgb; exact h.mono (show Ext M w (M.callee true) w from ⟨fun _ _ h => h, fun _ _ h => h, fun _ _ _ => rfl, fun _ _ => ⟨Nat.le_refl _, fun _ => rfl⟩⟩)
  | false =>
    subst hgb
    exact (h.noG [] M.st (hg rfl)).mono (show Ext { M with gb := [], st := M.st } w (M.callee false) w from ⟨fun _ _ h => h, fun _ _ h => h, fun _ _ _ => rfl, fun _ _ => ⟨Nat.le_refl _, fun _ => rfl⟩⟩)
def dstL : Option Nat → Nat → Loc
  | some d => Loc.env d
  | none => Loc.lim
theorem jln (hI : Inv fi M w s a) {o : Oper} {F : Nat} {args : List Value} {vs : List PV} {g : Bool} {r : PV} {gh' : List GObj} (hrun : (execOp a.eval o).run P w = .ok (.enter F args.toArray) w)
    (hok : CallOk P fi F vs (if g then s.gh else []) r gh') (hl : args.length = vs.length) (hr : ∀ (i : Nat) (p : PV) (v : Value), vs[i]? = some p → args[i]? = some v → RepP fi M w p v) (hg : g = false → noGs vs = true ∧ r.noG = true)
    (hlt : ∀ d, o.dst = some d → d < a.tmps.size) {next : Act → World → Prop} {Q : Exit → Act → World → Prop}
    (hn : ∀ a' M' w', Inv fi M' w' ⟨putO s.env o.dst r, s.lh, if g then gh' else s.gh⟩ a' → Kp M w M' w' → a'.tmps.size = a.tmps.size → next a' w') : o.wp P a w next Q := by
  unfold Oper.wp
  rw [hrun, Oper.upon_enter]
  obtain ⟨c1, c2, c3⟩ := hI.callee g
  refine Calls.mono (hok (M.callee g) w args c1 c2 c3 hl (fun i p v hp hv => jtk (hr i p v hp hv) (fun e => jiw (hg e).1 hp))) ?_
  rintro e w2 ⟨v, M2, rfl, hG, hlb, hrok, hrep, hk⟩
  obtain ⟨b1, b2, b3⟩ := hI.back g (dstL o.dst) (fun i => by cases o.dst <;> rfl) hG hlb hk hrep (fun e => (hg e).2) hrok
  simp only
  cases hd : o.dst with
  | none =>
    rw [hd] at b1 b2 b3 hn
    exact hn _ _ _ b1 b2 rfl
  | some d =>
    rw [hd] at b1 b2 b3 hn
    exact hn _ _ _ (b1.put (hlt d hd) b3) b2 (by simp [Act.put])
theorem Sim.wp {o : Oper} (h : Sim P fi o M w s' a) {next : Act → World → Prop} {Q : Exit → Act → World → Prop}
    (hn : ∀ a' M' w', Inv fi M' w' s' a' → Kp M w M' w' → a'.tmps.size = a.tmps.size → next a' w') : o.wp P a w next Q := by
  obtain ⟨n, v, M', w', h1, h2, h3, h4⟩ := h
  unfold Oper.wp
  rw [h1]
  have hs : (a.put o.dst v).tmps.size = a.tmps.size := by cases o.dst <;> simp [Act.put]
  rcases h2 with rfl | ⟨rfl, rfl⟩
  · exact hn _ _ _ h3 h4 hs
  · exact hn _ _ _ h3 h4 hs
def Mem.reads (M : Mem) : Mem := { lb := [], gb := [], imm := fun b k => M.imm b k ∨ b ∈ M.gb, own := fun _ => none, st := M.st }
theorem Inv.reads (hI : Inv fi M w s a) : GI fi M.reads w [] :=
  ⟨fun t v h => by simp [get] at h, rfl, rfl, rfl, by simp [Mem.reads], fun i cs blk h => by simp at h, fun i o blk h1 h2 => by simp at h1,
    fun x hx => ⟨.inl (hI.gl x hx).1, (hI.gl x hx).2⟩, fun b k h => h.elim (hI.immlt b k) (hI.gblt b), fun b l h => by simp [Mem.reads] at h, fun b hb => by simp [Mem.reads] at hb⟩
set_option maxHeartbeats 1600000 in
theorem op_wp (hcf : CfOk P fi cf) (hI : Inv fi M w s a) {o : Oper} {i : IOp} (hm : mOpC P fi i o.op = true) (hd : o.dst = opDst i) (hlt : ∀ d, opDst i = some d → d < a.tmps.size) (h : opStep cf s i = some s')
    {next : Act → World → Prop} {Q : Exit → Act → World → Prop} (hn : ∀ a' M' w', Inv fi M' w' s' a' → Kp M w M' w' → a'.tmps.size = a.tmps.size → next a' w') : o.wp P a w next Q := by
  have hlt' : ∀ d, o.dst = some d → d < a.tmps.size := fun d h => hlt d (by rw [← hd]; exact h)
  cases i with
  | call d q f xs =>
    obtain ⟨dst, op, ty, pos, aft, gd⟩ := o
    cases op <;> simp [mOpC, mOp] at hm
    rename_i c
    obtain ⟨callee, args, ats⟩ := c
    cases callee with
    | value y =>
      cases y <;> simp at hm
      rename_i F
      obtain ⟨hf, hxs⟩ := hm
      simp only [opStep, Option.bind_eq_some_iff] at h
      obtain ⟨vs, hvs, h⟩ := h
      unfold doCall at h
      split at h
      · rename_i hall
        simp only [List.all_eq_true] at hall
        obtain ⟨e1, e2⟩ := jji hI hxs hvs
        cases hc : cf f vs s.gh with
        | none => simp [hc] at h
        | some rg =>
          obtain ⟨r, gh'⟩ := rg
          simp only [hc] at h
          obtain ⟨⟨fn, cd, hfn, hnm, hbd⟩, hok⟩ := hcf f vs s.gh r gh' F hc hall hf
          have hs' : s' = ⟨putO s.env d r, s.lh, gh'⟩ := by
            split at h
            · split at h
              · rename_i he; cases h; rw [he]
              · cases h
            · cases h; rfl
          subst hs'
          refine jln (g := true) (args := args.toList.map a.eval) (vs := vs) (F := F) (r := r) (gh' := gh') hI ?_ hok (by simpa using e1) (fun i p v hp hv => ?_) (by simp) hlt' ?_
          · have hcap : args.map a.eval = (List.map a.eval args.toList).toArray := by apply Array.ext'; simp
            have hev : a.eval (.func F) = .func (.func F) #[] #[] := rfl
            simp [execOp, resolve, Deferred.ofValue, invoke, hev, hcap, jlm hfn hnm hbd]
          · simp only [List.getElem?_map, Option.map_eq_some_iff] at hv
            obtain ⟨y, hy, rfl⟩ := hv
            refine (e2 i p y hp hy).repP ?_
            exact hall p (List.mem_of_getElem? hp)
          · rw [show dst = d from hd]; exact hn
      · cases h
    | _ => simp at hm
  | callv d q fv xs =>
    obtain ⟨dst, op, ty, pos, aft, gd⟩ := o
    cases op <;> simp [mOpC, mOp] at hm
    rename_i c
    obtain ⟨callee, args, ats⟩ := c
    cases callee with
    | value y =>
      simp at hm
      obtain ⟨hfv, hxs⟩ := hm
      simp only [opStep] at h
      split at h
      · rename_i f caps hcl
        simp only [Option.bind_eq_some_iff] at h
        obtain ⟨vs, hvs, h⟩ := h
        obtain ⟨F, us, hf, hv, hul, hcok, hur⟩ := (ji6 hI hfv hcl).fnInv
        unfold doCall at h
        split at h
        · rename_i hall
          simp only [List.all_eq_true] at hall
          obtain ⟨e1, e2⟩ := jji hI hxs hvs
          cases hc : cf f (vs ++ caps) s.gh with
          | none => simp [hc] at h
          | some rg =>
            obtain ⟨r, gh'⟩ := rg
            simp only [hc] at h
            obtain ⟨⟨fn, cd, hfn, hnm, hbd⟩, hok⟩ := hcf f (vs ++ caps) s.gh r gh' F hc hall hf
            have hs' : s' = ⟨putO s.env d r, s.lh, gh'⟩ := by
              split at h
              · split at h
                · rename_i he; cases h; rw [he]
                · cases h
              · cases h; rfl
            subst hs'
            have hvl : (args.toList.map a.eval).length = vs.length := by simpa using e1
            refine jln (g := true) (args := args.toList.map a.eval ++ us) (vs := vs ++ caps) (F := F) (r := r) (gh' := gh') hI ?_ hok (by simp only [List.length_append]; omega) (fun i p v hp hv => ?_) (by simp) hlt' ?_
            · have hcap : args.map a.eval = (List.map a.eval args.toList).toArray := by apply Array.ext'; simp
              simp [execOp, resolve, Deferred.ofValue, invoke, hv, hcap, jlm hfn hnm hbd]
            · by_cases hi : i < vs.length
              · rw [List.getElem?_append_left hi] at hp
                rw [List.getElem?_append_left (by omega)] at hv
                simp only [List.getElem?_map, Option.map_eq_some_iff] at hv
                obtain ⟨y, hy, rfl⟩ := hv
                exact (e2 i p y hp hy).repP (hall p (List.mem_append_left _ (List.mem_of_getElem? hp)))
              · rw [List.getElem?_append_right (by omega)] at hp
                rw [List.getElem?_append_right (by omega), hvl] at hv
                exact hur _ p v hp hv
            · rw [show dst = d from hd]; exact hn
        · cases h
      · rename_i f caps hcl
        simp only [Option.bind_eq_some_iff] at h
        obtain ⟨vs, hvs, h⟩ := h
        obtain ⟨F, us, hf, hv, hul, hcok, hur⟩ := (ji6 hI hfv hcl).bfnInv
        unfold doCall at h
        split at h
        · rename_i hall
          simp only [List.all_eq_true] at hall
          obtain ⟨e1, e2⟩ := jji hI hxs hvs
          cases hc : cf f (caps ++ vs) s.gh with
          | none => simp [hc] at h
          | some rg =>
            obtain ⟨r, gh'⟩ := rg
            simp only [hc] at h
            obtain ⟨⟨fn, cd, hfn, hnm, hbd⟩, hok⟩ := hcf f (caps ++ vs) s.gh r gh' F hc hall hf
            have hs' : s' = ⟨putO s.env d r, s.lh, gh'⟩ := by
              split at h
              · split at h
                · rename_i he; cases h; rw [he]
                · cases h
              · cases h; rfl
            subst hs'
            have hvl : (args.toList.map a.eval).length = vs.length := by simpa using e1
            refine jln (g := true) (args := us ++ args.toList.map a.eval) (vs := caps ++ vs) (F := F) (r := r) (gh' := gh') hI ?_ hok (by simp only [List.length_append]; omega) (fun i p v hp hv => ?_) (by simp) hlt' ?_
            · have hcap : args.map a.eval = (List.map a.eval args.toList).toArray := by apply Array.ext'; simp
              simp [execOp, resolve, Deferred.ofValue, invoke, hv, hcap, jlm hfn hnm hbd]
            · by_cases hi : i < caps.length
              · rw [List.getElem?_append_left hi] at hp
                rw [List.getElem?_append_left (by omega)] at hv
                exact hur _ p v hp hv
              · rw [List.getElem?_append_right (by omega)] at hp
                rw [List.getElem?_append_right (by omega), hul] at hv
                simp only [List.getElem?_map, Option.map_eq_some_iff] at hv
                obtain ⟨y, hy, rfl⟩ := hv
                exact (e2 _ p y hp hy).repP (hall p (List.mem_append_right _ (List.mem_of_getElem? hp)))
            · rw [show dst = d from hd]; exact hn
        · cases h
      · cases h
    | _ => simp at hm
  | callE => simp [opStep] at h
  | callF => simp [opStep] at h
  | callP => simp [opStep] at h
  | callR => simp [opStep] at h
  | appendE => simp [opStep] at h
  | loadKB => simp [opStep] at h
  | loadTB => simp [opStep] at h
  | loadB => simp [opStep] at h
  | loadJ => simp [opStep] at h
  | appendP => simp [opStep] at h
  | mkarr => simp [opStep] at h
  | buildA => simp [opStep] at h
  | loadN => simp [opStep] at h
  | loadL => simp [opStep] at h
  | mv => exact (sim_mv ⟨hI, by simpa [mOpC] using hm, hd, hlt⟩ h).wp hn
  | tk => exact (sim_tk ⟨hI, by simpa [mOpC] using hm, hd, hlt⟩ h).wp hn
  | pick => exact (jso ⟨hI, by simpa [mOpC] using hm, hd, hlt⟩ h).wp hn
  | box => exact (jsp ⟨hI, by simpa [mOpC] using hm, hd, hlt⟩ h).wp hn
  | alloc => exact (jsq ⟨hI, by simpa [mOpC] using hm, hd, hlt⟩ h).wp hn
  | build => exact (jte ⟨hI, by simpa [mOpC] using hm, hd, hlt⟩ h).wp hn
  | buildT => exact (jtg ⟨hI, by simpa [mOpC] using hm, hd, hlt⟩ h).wp hn
  | buildSl => exact (jth ⟨hI, by simpa [mOpC] using hm, hd, hlt⟩ h).wp hn
  | load => exact (jsr ⟨hI, by simpa [mOpC] using hm, hd, hlt⟩ h).wp hn
  | loadT => exact (jss ⟨hI, by simpa [mOpC] using hm, hd, hlt⟩ h).wp hn
  | store => exact (jst ⟨hI, by simpa [mOpC] using hm, hd, hlt⟩ h).wp hn
  | nilc => exact (jsu ⟨hI, by simpa [mOpC] using hm, hd, hlt⟩ h).wp hn
  | bin => exact (jsv ⟨hI, by simpa [mOpC] using hm, hd, hlt⟩ h).wp hn
  | eqa => simp [opStep] at h
  | eqb => exact (jsw ⟨hI, by simpa [mOpC] using hm, hd, hlt⟩ h).wp hn
  | eqn => exact (jsx ⟨hI, by simpa [mOpC] using hm, hd, hlt⟩ h).wp hn
  | un => exact (sim_un ⟨hI, by simpa [mOpC] using hm, hd, hlt⟩ h).wp hn
  | conv => simp [opStep] at h
  | mkfn => exact (jsy ⟨hI, by simpa [mOpC] using hm, hd, hlt⟩ h).wp hn
  | mkbf => simp [opStep] at h
  | storeK => simp [opStep] at h
  | clearK => simp [opStep] at h
  | mkmap => exact (jsz ⟨hI, by simpa [mOpC] using hm, hd, hlt⟩ h).wp hn
  | mksl => exact (jta ⟨hI, by simpa [mOpC] using hm, hd, hlt⟩ h).wp hn
  | slice => exact (jt0 ⟨hI, by simpa [mOpC] using hm, hd, hlt⟩ h).wp hn
  | sliceS => simp [opStep] at h
  | faddr => exact (jt1 ⟨hI, by simpa [mOpC] using hm, hd, hlt⟩ h).wp hn
  | field => simp [opStep] at h
  | iaddr => exact (jt2 ⟨hI, by simpa [mOpC] using hm, hd, hlt⟩ h).wp hn
  | index => exact (jt3 ⟨hI, by simpa [mOpC] using hm, hd, hlt⟩ h).wp hn
  | indexS => simp [opStep] at h
  | lookup => exact (jt4 ⟨hI, by simpa [mOpC] using hm, hd, hlt⟩ h).wp hn
  | mupd => exact (jt5 ⟨hI, by simpa [mOpC] using hm, hd, hlt⟩ h).wp hn
  | len => exact (jt6 ⟨hI, by simpa [mOpC] using hm, hd, hlt⟩ h).wp hn
  | append => exact (jt7 ⟨hI, by simpa [mOpC] using hm, hd, hlt⟩ h).wp hn
  | appendK => simp [opStep] at h
  | appendN => simp [opStep] at h
  | loadH => simp [opStep] at h
  | loadK => simp [opStep] at h
  | buildSlK => simp [opStep] at h
  | maxi => simp [opStep] at h
  | extract => exact (jt8 ⟨hI, by simpa [mOpC] using hm, hd, hlt⟩ h).wp hn
end
end Go.Lw
end

/-! Regions that are run as they stand. -/
section
namespace Go.Lw
open Go Go.RowKit
section
variable {fi : FI} {M M' : Mem} {w w' : World} {P : Program} {s s' : St} {a : Act} {cf : CallF}
def mGuard (ops : Array Oper) : Option (Nat × Bool) → Option (Nat × Bool) → Bool
 | none, none => true
 | some (t, want), some (g, want') => ((ops[g]?).bind (·.dst) == some t) && (want == want')
 | _, _ => false
def mOpG (P : Program) (fi : FI) (N : Nat) (ops : Array Oper) (i : IOpG) (o : Oper) : Bool :=
 mOpC P fi i.op o.op && (o.dst == opDst i.op) && (match opDst i.op with | some d => decide (d < N) | none => true) && mGuard ops i.guard o.guard
def mOps (P : Program) (fi : FI) (N : Nat) (ops : Array Oper) : List IOpG → List Oper → Bool
 | [], [] => true
 | i :: is, o :: os => mOpG P fi N ops i o && mOps P fi N ops is os
 | _, _ => false
theorem jtl {N : Nat} {ops : Array Oper} {i : IOpG} {o : Oper} (h : mOpG P fi N ops i o = true) :
  mOpC P fi i.op o.op = true ∧ o.dst = opDst i.op ∧ (∀ d, opDst i.op = some d → d < N) ∧ mGuard ops i.guard o.guard = true := by
 simp only [mOpG, Bool.and_eq_true, beq_iff_eq] at h
 obtain ⟨⟨⟨h1, h2⟩, h3⟩, h4⟩ := h
 refine ⟨h1, h2, fun d hd => ?_, h4⟩
 rw [hd] at h3
 simpa using h3
noncomputable def opG (cf : CallF) (i : IOpG) (s : St) : Option St :=
 match i.guard with
 | none => opStep cf s i.op
 | some (g, want) => match get s.env g with
  | some (.bool b) => if b = want then opStep cf s i.op else some (skipped s i.op)
  | some .und => some (skipped s i.op)
  | _ => none
theorem jjl (i : IOpG) (l : List IOpG) (s : St) : opsRun cf (i :: l) s = (opG cf i s).bind (opsRun cf l) := by
 obtain ⟨op, gd⟩ := i
 cases gd with
 | none => rfl
 | some q =>
  obtain ⟨g, want⟩ := q
  simp only [opsRun, opG]
  cases hg : get s.env g with
  | none => rfl
  | some v =>
   cases v <;> simp only [Option.bind_none, Option.bind_some]
   split <;> simp
theorem jtm (hI : Inv fi M w s a) {i : IOp} (hlt : ∀ d, opDst i = some d → d < a.tmps.size) : Inv fi M w (skipped s i) (a.put (opDst i) undef) := by
 unfold skipped
 cases hd : opDst i with
 | none => exact hI
 | some d => exact hI.put (hlt d hd) (RepP.repE .und).repAt
theorem opG_wp (hcf : CfOk P fi cf) (hI : Inv fi M w s a) {N : Nat} {ops : Array Oper} {i : IOpG} {o : Oper} (hm : mOpG P fi N ops i o = true) (hN : N ≤ a.tmps.size) (h : opG cf i s = some s')
  {next : Act → World → Prop} {Q : Exit → Act → World → Prop} (hn : ∀ a' M' w', Inv fi M' w' s' a' → Kp M w M' w' → a'.tmps.size = a.tmps.size → next a' w') :
  if Region.wanted o (yielded ops a.tmps) then o.wp P a w next Q else next (a.put o.dst undef) w := by
 obtain ⟨h1, h2, h3, h4⟩ := jtl hm
 have hlt : ∀ d, opDst i.op = some d → d < a.tmps.size := fun d hd => Nat.lt_of_lt_of_le (h3 d hd) hN
 have hskip : next (a.put o.dst undef) w ∨ s' ≠ skipped s i.op := by
  by_cases hs : s' = skipped s i.op
  ·left
   subst hs
   rw [h2]
   exact hn _ M w (jtm hI hlt) (Kp.refl M w) (by cases opDst i.op <;> simp [Act.put])
  ·exact .inr hs
 unfold opG at h
 unfold Region.wanted
 cases hg : i.guard with
 | none =>
  rw [hg] at h h4
  cases hog : o.guard with
  | none => simp only [if_true]; exact op_wp hcf hI h1 h2 hlt h hn
  | some q => rw [hog] at h4; simp [mGuard] at h4
 | some q =>
  obtain ⟨g, want⟩ := q
  rw [hg] at h h4
  cases hog : o.guard with
  | none => rw [hog] at h4; simp [mGuard] at h4
  | some q' =>
   obtain ⟨j, want'⟩ := q'
   rw [hog] at h4
   simp only [mGuard, Bool.and_eq_true, beq_iff_eq] at h4
   obtain ⟨hdj, rfl⟩ := h4
   simp only at h
   have hy : ∀ v, get s.env g = some v → yielded ops a.tmps j = (match a.tmps.getD g undef with | .bool b => some b | _ => none) := by
    intro v hv
    have hlt := (hI.env g v hv).1
    simp only [yielded, hdj, Option.bind_some]
    simp only [Array.getD_eq_getD_getElem?, Array.getElem?_eq_getElem hlt, Option.getD_some]
    split <;> split <;> simp_all
   split at h
   ·rename_i b hb
    have hv : a.tmps.getD g undef = .bool b := RepE.bool (hI.env g _ hb).2
    simp only [hy _ hb, hv]
    split at h
    ·rename_i hbw
     subst hbw
     simp only [beq_self_eq_true, if_true]
     exact op_wp hcf hI h1 h2 hlt h hn
    ·rename_i hbw
     cases h
     rw [if_neg (by simpa using hbw)]
     exact hskip.resolve_right (by simp)
   ·rename_i hb
    cases h
    have hv : a.tmps.getD g undef = undef := by
     have := (hI.env g _ hb).2
     generalize a.tmps.getD g undef = u at this
     cases (show RepP fi M w .und u from this); rfl
    simp only [hy _ hb, hv]
    rw [if_neg (by simp [undef])]
    exact hskip.resolve_right (by simp)
   ·cases h
theorem ops_wp (hcf : CfOk P fi cf) {N : Nat} {ops : Array Oper} {Q : Exit → Act → World → Prop} : ∀ {is : List IOpG} {os : List Oper} {M : Mem} {w : World} {s : St} {a : Act}, mOps P fi N ops is os = true → Inv fi M w s a → N ≤ a.tmps.size → opsRun cf is s = some s' →
  (∀ a' M' w', Inv fi M' w' s' a' → Kp M w M' w' → a'.tmps.size = a.tmps.size → Q .normal a' w') → wpList P ops Q os a w
 | [], [], M, w, s, a, _, hI, _, h, hn => by
  simp [opsRun] at h; subst h
  exact hn a M w hI (Kp.refl M w) rfl
 | [], _ :: _, _, _, _, _, hm, _, _, _, _ => by simp [mOps] at hm
 | _ :: _, [], _, _, _, _, hm, _, _, _, _ => by simp [mOps] at hm
 | i :: is, o :: os, M, w, s, a, hm, hI, hN, h, hn => by
  simp only [mOps, Bool.and_eq_true] at hm
  rw [jjl, Option.bind_eq_some_iff] at h
  obtain ⟨s1, h1, h2⟩ := h
  have := opG_wp (Q := Q) (next := wpList P ops Q os) hcf hI hm.1 hN h1 (fun a' M' w' hI' hk hs =>
   ops_wp hcf hm.2 hI' (by omega) h2 (fun a2 M2 w2 hI2 hk2 hs2 => hn a2 M2 w2 hI2 (hk.trans hk2) (hs2.trans hs)))
  unfold wpList
  split
  ·rename_i hw; rw [if_pos hw] at this; exact .inl this
  ·rename_i hw; rw [if_neg hw] at this; exact this
end
end Go.Lw
end

/-! What an operation looks at and what it changes: two that do not meet may change places. -/
section
namespace Go.Lw
open Go Go.RowKit
def rdX : IX → List Nat
 | .t n => [n]
 | _ => []
def rdXs (xs : List IX) : List Nat := xs.flatMap rdX
def rdO : Option IX → List Nat
 | some x => rdX x
 | none => []
def rdPs (ps : List (Nat × Nat × IX)) : List Nat := ps.flatMap fun p => rdX p.2.2
def rd : IOp → List Nat
 | .mv _ x | .clearK x | .box _ _ _ x | .load _ _ _ x | .loadK _ x | .loadH _ x | .loadT _ x | .loadL _ x | .nilc _ x | .eqn _ _ x | .un _ _ x | .conv _ _ x | .faddr _ x _ | .field _ _ _ _ x | .len _ _ x | .extract _ x _ | .mksl _ _ _ _ _ x | .mkarr _ _ _ _ x | .loadJ _ _ _ x => rdX x
 | .tk _ n => [n]
 | .pick _ c x y => rdX c ++ (rdX x ++ rdX y)
 | .alloc _ _ _ | .mkmap _ => []
 | .build _ _ ps | .buildT _ _ ps | .buildA _ _ ps => rdPs ps
 | .buildSl _ _ xs | .buildSlK _ xs | .mkfn _ _ xs | .mkbf _ _ xs | .maxi _ xs | .call _ _ _ xs | .callF _ _ xs => rdXs xs
 | .store _ _ x y | .bin _ _ x y | .eqa _ _ _ x y | .eqb _ _ x y | .iaddr _ _ _ x y | .index _ _ _ _ x y | .indexS _ x y | .lookup _ _ x y _ _ | .append _ _ _ x y | .appendN _ _ x y | .appendK _ _ x y | .appendE _ _ x y | .storeK x y => rdX x ++ rdX y
 | .slice _ _ x lo hi | .sliceS _ x lo hi => rdX x ++ (rdO lo ++ rdO hi)
 | .mupd _ m k x => rdX m ++ (rdX k ++ rdX x)
 | .callv _ _ f xs | .callE _ f xs => rdX f ++ rdXs xs
 | .loadN _ _ _ x n | .loadB _ _ _ x n | .loadKB _ x n | .loadTB _ x n _ => n :: rdX x
 | .callP _ _ xs ns => ns ++ rdXs xs
 | .callR _ _ xs n _ => n :: rdXs xs
 | .appendP _ _ x y ns => ns ++ (rdX x ++ rdX y)
def wr (i : IOp) : List Nat :=
 (opDst i).toList ++ match i with
  | .tk _ n => [n]
  | .box _ _ true x | .store true _ _ x | .append _ _ _ x _ | .appendE _ _ x _ => rdX x
  | .buildT _ _ ps | .buildA _ _ ps => rdPs ps
  | _ => []
def cls : IOp → Nat
 | .box _ false _ _ | .alloc _ false _ => 3
 | .box _ true _ _ | .alloc _ true _ | .mksl _ true _ _ _ _ => 5
 | .mkmap _ | .buildSlK _ _ => 4
 | .load _ _ _ _ | .loadN _ _ _ _ _ | .loadB _ _ _ _ _ | .loadJ _ _ _ _ | .lookup _ _ _ _ _ _ | .callE _ _ _ => 2
 | .len _ kd _ => if kd = 2 then 2 else 0
 | .loadK _ _ | .loadKB _ _ _ | .appendE _ _ _ _ => 1
 | .callP _ _ _ _ | .callR _ _ _ _ _ | .buildA _ _ _ => 5
 | .call _ q _ _ | .callv _ q _ _ => if q then 1 else 5
 | .loadL _ _ => 6
 | .loadH _ _ => 8
 | .loadT _ _ | .loadTB _ _ _ _ | .appendK _ _ _ _ => 7
 | .appendN _ _ _ _ | .appendP _ _ _ _ _ => 9
 | .store _ _ _ _ | .mupd _ _ _ _ | .storeK _ _ | .clearK _ => 5
 | _ => 0
def GObj.deg : GObj → GObj
 | .cells cs => .cells (cs.map degr1)
 | .map es => .map es
 | .stk _ _ => .stk 0 []
def HOk (c : Nat) (s s2 : St) : Prop :=
 match c with
 | 0 => True
 | 1 => s2.gh = s.gh
 | 2 => (∀ (b : Nat) (cs : List PV), s.lh[b]? = some cs → ∃ cs2, s2.lh[b]? = some cs2 ∧ cs2.map degr1 = cs.map degr1) ∧ ∀ (b : Nat) (o : GObj), s.gh[b]? = some o → ∃ o2, s2.gh[b]? = some o2 ∧ o2.deg = o.deg
 | 8 => s2.lh = s.lh
 | _ => s2.lh = s.lh ∧ s2.gh = s.gh
def HRes (c : Nat) (s s' s2 s2' : St) : Prop :=
 match c with
 | 0 | 1 | 2 | 8 => s'.lh = s.lh ∧ s'.gh = s.gh ∧ s2'.lh = s2.lh ∧ s2'.gh = s2.gh
 | 3 => (∃ cs, s'.lh = s.lh ++ [cs]) ∧ s'.gh = s.gh ∧ s2'.lh = s'.lh ∧ s2'.gh = s'.gh
 | 4 => s'.lh = s.lh ∧ (∃ o, s'.gh = s.gh ++ [o]) ∧ s2'.lh = s'.lh ∧ s2'.gh = s'.gh
 | 6 => s'.lh.map (List.map degr1) = s.lh.map (List.map degr1) ∧ s'.gh = s.gh ∧ s2'.lh = s'.lh ∧ s2'.gh = s'.gh
 | 7 => s'.lh.map (List.map degr1) = s.lh.map (List.map degr1) ∧ s'.gh.map GObj.deg = s.gh.map GObj.deg ∧ s2'.lh = s'.lh ∧ s2'.gh = s'.gh
 | 9 => s'.lh = s.lh ∧ (∀ (b : Nat) (o : GObj), s.gh[b]? = some o → ∃ o2, s'.gh[b]? = some o2 ∧ o2.deg = o.deg) ∧ s2'.lh = s'.lh ∧ s2'.gh = s'.gh
 | _ => s2'.lh = s'.lh ∧ s2'.gh = s'.gh
section
variable {s s' s2 : St} {cf : CallF}
theorem jig {e e2 : List (Nat × PV)} {x : IX} (h : ∀ t ∈ rdX x, get e2 t = get e t) : evalX e2 x = evalX e x := by
 cases x <;> simp [evalX]
 rw [h _ (by simp [rdX])]
theorem jtn {e e2 : List (Nat × PV)} {x : IX} (h : ∀ t ∈ rdX x, get e2 t = get e t) : evalK e2 x = evalK e x := by
 cases x <;> simp [evalK]
 rw [h _ (by simp [rdX])]
theorem jk3 {e e2 : List (Nat × PV)} : ∀ {xs : List IX}, (∀ t ∈ rdXs xs, get e2 t = get e t) → evalXs e2 xs = evalXs e xs
 | [], _ => rfl
 | x :: l, h => by
  simp only [rdXs, List.flatMap_cons, List.mem_append] at h
  simp only [evalXs]
  rw [jig (fun t ht => h t (.inl ht)), jk3 (xs := l) (fun t ht => h t (.inr ht))]
theorem jnz {e e2 : List (Nat × PV)} : ∀ {ps : List (Nat × Nat × IX)}, (∀ t ∈ rdPs ps, get e2 t = get e t) → evalPs e2 ps = evalPs e ps
 | [], _ => rfl
 | (o, k, x) :: l, h => by
  simp only [rdPs, List.flatMap_cons, List.mem_append] at h
  simp only [evalPs]
  rw [jig (fun t ht => h t (.inl ht)), jnz (ps := l) (fun t ht => h t (.inr ht))]
theorem jo0 {e e2 : List (Nat × PV)} {d : Nat} {x : Option IX} (h : ∀ t ∈ rdO x, get e2 t = get e t) : sliceBd e2 d x = sliceBd e d x := by
 cases x with
 | none => rfl
 | some x => simp only [sliceBd]; rw [jig h]
def EnvR (W : List Nat) (e' e2 e2' : List (Nat × PV)) : Prop := ∀ t, get e2' t = if t ∈ W then get e' t else get e2 t
theorem EnvR.put {e e2 : List (Nat × PV)} {d : Nat} {v : PV} {W : List Nat} (h : ∀ t, t ∈ W ↔ t = d) : EnvR W (put e d v) e2 (put e2 d v) := by
 intro t
 rw [jj3, jj3]
 by_cases hd : d = t
 ·subst hd; simp [(h d).2 rfl]
 ·have : t ∉ W := fun hw => hd ((h t).1 hw).symm
  simp [hd, this]
theorem EnvR.refl {e' e2 : List (Nat × PV)} {W : List Nat} (h : ∀ t, t ∉ W) : EnvR W e' e2 e2 := fun t => by simp [h t]
theorem jk4 {e e2 e' : List (Nat × PV)} {x : IX} {v : PV} (h : ∀ t ∈ rdX x, get e2 t = get e t) (ht : takeX e x = some (v, e')) :
  ∃ e2', takeX e2 x = some (v, e2') ∧ EnvR (rdX x) e' e2 e2' := by
 cases x with
 | t n =>
  simp only [takeX, Option.map_eq_some_iff, Prod.mk.injEq] at ht ⊢
  obtain ⟨v', hv, rfl, rfl⟩ := ht
  rw [h n (by simp [rdX])]
  exact ⟨_, ⟨v', hv, rfl, rfl⟩, EnvR.put (by simp [rdX])⟩
 | c p =>
  simp only [takeX, Option.some.injEq, Prod.mk.injEq] at ht ⊢
  obtain ⟨rfl, rfl⟩ := ht
  exact ⟨_, ⟨rfl, rfl⟩, EnvR.refl (by simp [rdX])⟩
 | f id =>
  simp only [takeX, Option.some.injEq, Prod.mk.injEq] at ht ⊢
  obtain ⟨rfl, rfl⟩ := ht
  exact ⟨_, ⟨rfl, rfl⟩, EnvR.refl (by simp [rdX])⟩
theorem EnvR.trans {W W2 : List Nat} {e' e2 e2' e'' e2'' : List (Nat × PV)} (h : EnvR W e' e2 e2') (h2 : EnvR W2 e'' e2' e2'') (hf : ∀ t, t ∉ W2 → get e'' t = get e' t) : EnvR (W ++ W2) e'' e2 e2'' := by
 intro t
 rw [h2 t, h t]
 simp only [List.mem_append]
 by_cases hw2 : t ∈ W2
 ·simp [hw2]
 ·by_cases hw : t ∈ W
  ·simp [hw, hw2, hf t hw2]
  ·simp [hw, hw2]
theorem jo1 : ∀ {ps : List (Nat × Nat × IX)} {e e2 e' : List (Nat × PV)} {vs : List (Nat × Nat × PV)}, (∀ t ∈ rdPs ps, get e2 t = get e t) → takePs e ps = some (vs, e') →
  ∃ e2', takePs e2 ps = some (vs, e2') ∧ EnvR (rdPs ps) e' e2 e2' ∧ ∀ t, t ∉ rdPs ps → get e' t = get e t
 | [], e, e2, e', vs, _, ht => by
  simp only [takePs, Option.some.injEq, Prod.mk.injEq] at ht ⊢
  obtain ⟨rfl, rfl⟩ := ht
  exact ⟨_, ⟨rfl, rfl⟩, EnvR.refl (by simp [rdPs]), fun _ _ => rfl⟩
 | (o, k, x) :: l, e, e2, e', vs, h, ht => by
  simp only [rdPs, List.flatMap_cons, List.mem_append] at h
  simp only [takePs, Option.bind_eq_some_iff, Option.map_eq_some_iff, Prod.exists, Prod.mk.injEq] at ht ⊢
  obtain ⟨v, e1, h1, vs', e'', h2, rfl, rfl⟩ := ht
  obtain ⟨e3, t1, t2⟩ := jk4 (e2 := e2) (fun t ht => h t (.inl ht)) h1
  obtain ⟨e5, u1, u2⟩ := jk4 (e2 := e) (fun t ht => rfl) h1
  rw [h1] at u1
  simp only [Option.some.injEq, Prod.mk.injEq, true_and] at u1
  subst u1
  obtain ⟨e4, t3, t4, t5⟩ := jo1 (ps := l) (e2 := e3) (fun t ht => by
   rw [t2 t]
   split
   ·rfl
   ·rename_i hx
    rw [u2 t, if_neg hx]
    exact h t (.inr ht)) h2
  refine ⟨e4, ⟨v, e3, t1, vs', e4, t3, rfl, rfl⟩, ?_, fun t ht => ?_⟩
  ·simp only [rdPs, List.flatMap_cons]
   exact t2.trans t4 t5
  ·simp only [rdPs, List.flatMap_cons, List.mem_append, not_or] at ht
   rw [t5 t ht.2, u2 t, if_neg ht.1]
end
end Go.Lw
end

/-! An operation that looks at no box: what it does elsewhere. Written by program. -/
section
namespace Go.Lw
open Go Go.RowKit
section
variable {s s' s2 : St} {cf : CallF}
def Fills (cf : CallF) (i : IOp) (d : Nat) : Prop :=
 ∀ s s2 : St, (∀ t ∈ rd i, get s2.env t = get s.env t) → ∀ s', opStep cf s i = some s' → ∃ v, s' = s.put d v ∧ opStep cf s2 i = some (s2.put d v)
theorem fills_mv {d x} : Fills cf (.mv d x) d := by
 intro s s2 ha s' h
 have h1 : evalK s2.env x = evalK s.env x := jtn (fun t ht => ha t (by simp [rd, ht]))
 simp only [opStep, h1] at h ⊢
 simp only [Option.map_eq_some_iff] at h ⊢
 obtain ⟨v, hv, rfl⟩ := h
 exact ⟨v, rfl, v, hv, rfl⟩
theorem fills_pick {d c x y} : Fills cf (.pick d c x y) d := by
 intro s s2 ha s' h
 have h1 : evalX s2.env c = evalX s.env c := jig (fun t ht => ha t (by simp [rd, ht]))
 have h2 : evalX s2.env x = evalX s.env x := jig (fun t ht => ha t (by simp [rd, ht]))
 have h3 : evalX s2.env y = evalX s.env y := jig (fun t ht => ha t (by simp [rd, ht]))
 simp only [opStep, h1, h2, h3] at h ⊢
 repeat' split at h
 all_goals first
  | (cases h; done)
  | (cases h; exact ⟨_, rfl, by simp [*]⟩)
  | (simp only [Option.map_eq_some_iff] at h; obtain ⟨v, hv, rfl⟩ := h; exact ⟨_, rfl, by simp [*]⟩)
  | (simp only [Option.bind_eq_some_iff] at h; obtain ⟨p, hp, q, hq, h⟩ := h; split at h
     ·rename_i hc; cases h; exact ⟨_, rfl, by simp [*]⟩
     ·cases h)
theorem fills_build {d z ps} : Fills cf (.build d z ps) d := by
 intro s s2 ha s' h
 have h1 : evalPs s2.env ps = evalPs s.env ps := jnz (fun t ht => ha t (by simp [rd, ht]))
 simp only [opStep, h1] at h ⊢
 simp only [Option.bind_eq_some_iff] at h ⊢
 obtain ⟨p, hp, h⟩ := h
 split at h
 ·rename_i hc
  simp only [Option.map_eq_some_iff] at h
  obtain ⟨v, hv, rfl⟩ := h
  exact ⟨_, rfl, p, hp, by rw [if_pos hc, hv]; rfl⟩
 ·cases h
theorem fills_buildSl {d z els} : Fills cf (.buildSl d z els) d := by
 intro s s2 ha s' h
 have h1 : evalXs s2.env els = evalXs s.env els := jk3 (fun t ht => ha t (by simp [rd, ht]))
 simp only [opStep, h1] at h ⊢
 simp only [Option.bind_eq_some_iff] at h ⊢
 obtain ⟨p, hp, h⟩ := h
 split at h
 ·rename_i hc; cases h; exact ⟨_, rfl, p, hp, by rw [if_pos hc]⟩
 ·cases h
theorem fills_mksl {d z bytes zero l} : Fills cf (.mksl d false z bytes zero l) d := by
 intro s s2 ha s' h
 have h1 : evalX s2.env l = evalX s.env l := jig (fun t ht => ha t (by simp [rd, ht]))
 simp only [opStep, h1] at h ⊢
 split at h
 ·rename_i k n hp
  split at h
  ·rename_i hc
   split at h <;> try (cases h; done)
   rename_i hf
   cases h; exact ⟨_, rfl, by rw [if_pos hc]; simp only [if_pos hf]⟩
  ·cases h
 ·cases h
theorem fills_nilc {d x} : Fills cf (.nilc d x) d := by
 intro s s2 ha s' h
 have h1 : evalX s2.env x = evalX s.env x := jig (fun t ht => ha t (by simp [rd, ht]))
 simp only [opStep, h1] at h ⊢
 repeat' split at h
 all_goals first
  | (cases h; done)
  | (cases h; exact ⟨_, rfl, by simp [*]⟩)
  | (simp only [Option.map_eq_some_iff] at h; obtain ⟨v, hv, rfl⟩ := h; exact ⟨_, rfl, by simp [*]⟩)
  | (simp only [Option.bind_eq_some_iff] at h; obtain ⟨p, hp, q, hq, h⟩ := h; split at h
     ·rename_i hc; cases h; exact ⟨_, rfl, by simp [*]⟩
     ·cases h)
theorem fills_bin {d op x y} : Fills cf (.bin d op x y) d := by
 intro s s2 ha s' h
 have h1 : evalX s2.env x = evalX s.env x := jig (fun t ht => ha t (by simp [rd, ht]))
 have h2 : evalX s2.env y = evalX s.env y := jig (fun t ht => ha t (by simp [rd, ht]))
 simp only [opStep, h1, h2] at h ⊢
 simp only [Option.bind_eq_some_iff, Option.map_eq_some_iff] at h ⊢
 obtain ⟨p, hp, q, hq, v, hv, rfl⟩ := h
 exact ⟨v, rfl, p, hp, q, hq, v, hv, rfl⟩
theorem fills_eqb {d neg x y} : Fills cf (.eqb d neg x y) d := by
 intro s s2 ha s' h
 have h1 : evalX s2.env x = evalX s.env x := jig (fun t ht => ha t (by simp [rd, ht]))
 have h2 : evalX s2.env y = evalX s.env y := jig (fun t ht => ha t (by simp [rd, ht]))
 simp only [opStep, h1, h2] at h ⊢
 repeat' split at h
 all_goals first
  | (cases h; done)
  | (cases h; exact ⟨_, rfl, by simp [*]⟩)
  | (simp only [Option.map_eq_some_iff] at h; obtain ⟨v, hv, rfl⟩ := h; exact ⟨_, rfl, by simp [*]⟩)
  | (simp only [Option.bind_eq_some_iff] at h; obtain ⟨p, hp, q, hq, h⟩ := h; split at h
     ·rename_i hc; cases h; exact ⟨_, rfl, by simp [*]⟩
     ·cases h)
theorem fills_eqn {d neg x} : Fills cf (.eqn d neg x) d := by
 intro s s2 ha s' h
 have h1 : evalX s2.env x = evalX s.env x := jig (fun t ht => ha t (by simp [rd, ht]))
 simp only [opStep, h1] at h ⊢
 repeat' split at h
 all_goals first
  | (cases h; done)
  | (cases h; exact ⟨_, rfl, by simp [*]⟩)
  | (simp only [Option.map_eq_some_iff] at h; obtain ⟨v, hv, rfl⟩ := h; exact ⟨_, rfl, by simp [*]⟩)
  | (simp only [Option.bind_eq_some_iff] at h; obtain ⟨p, hp, q, hq, h⟩ := h; split at h
     ·rename_i hc; cases h; exact ⟨_, rfl, by simp [*]⟩
     ·cases h)
theorem fills_un {d op x} : Fills cf (.un d op x) d := by
 intro s s2 ha s' h
 have h1 : evalX s2.env x = evalX s.env x := jig (fun t ht => ha t (by simp [rd, ht]))
 simp only [opStep, h1] at h ⊢
 simp only [Option.bind_eq_some_iff, Option.map_eq_some_iff] at h ⊢
 obtain ⟨p, hp, v, hv, rfl⟩ := h
 exact ⟨v, rfl, p, hp, v, hv, rfl⟩
theorem fills_mkfn {d f caps} : Fills cf (.mkfn d f caps) d := by
 intro s s2 ha s' h
 have h1 : evalXs s2.env caps = evalXs s.env caps := jk3 (fun t ht => ha t (by simp [rd, ht]))
 simp only [opStep, h1] at h ⊢
 simp only [Option.bind_eq_some_iff] at h ⊢
 obtain ⟨p, hp, h⟩ := h
 split at h
 ·rename_i hc; cases h; exact ⟨_, rfl, p, hp, by rw [if_pos hc]⟩
 ·cases h
theorem fills_slice {d z x lo hi} : Fills cf (.slice d z x lo hi) d := by
 intro s s2 ha s' h
 have h1 : evalX s2.env x = evalX s.env x := jig (fun t ht => ha t (by simp [rd, ht]))
 have h2 : ∀ n, sliceBd s2.env n lo = sliceBd s.env n lo := fun n => jo0 (fun t ht => ha t (by simp [rd, ht]))
 have h3 : ∀ n, sliceBd s2.env n hi = sliceBd s.env n hi := fun n => jo0 (fun t ht => ha t (by simp [rd, ht]))
 simp only [opStep, h1, h2, h3] at h ⊢
 repeat' split at h
 all_goals first
  | (cases h; done)
  | (cases h; exact ⟨_, rfl, by simp [*]⟩)
  | (simp only [Option.map_eq_some_iff] at h; obtain ⟨v, hv, rfl⟩ := h; exact ⟨_, rfl, by simp [*]⟩)
  | (simp only [Option.bind_eq_some_iff] at h; obtain ⟨p, hp, q, hq, h⟩ := h; split at h
     ·rename_i hc; cases h; exact ⟨_, rfl, by simp [*]⟩
     ·cases h)
  | (simp only [Option.bind_eq_some_iff] at h; obtain ⟨p, hp, h⟩ := h; split at h
     ·rename_i hc; cases h; exact ⟨_, rfl, by simp [*]⟩
     ·cases h)
theorem fills_faddr {d x off} : Fills cf (.faddr d x off) d := by
 intro s s2 ha s' h
 have h1 : evalX s2.env x = evalX s.env x := jig (fun t ht => ha t (by simp [rd, ht]))
 simp only [opStep, h1] at h ⊢
 repeat' split at h
 all_goals first
  | (cases h; done)
  | (cases h; exact ⟨_, rfl, by simp [*]⟩)
  | (simp only [Option.map_eq_some_iff] at h; obtain ⟨v, hv, rfl⟩ := h; exact ⟨_, rfl, by simp [*]⟩)
  | (simp only [Option.bind_eq_some_iff] at h; obtain ⟨p, hp, q, hq, h⟩ := h; split at h
     ·rename_i hc; cases h; exact ⟨_, rfl, by simp [*]⟩
     ·cases h)
theorem fills_iaddr {d z arr x i} : Fills cf (.iaddr d z arr x i) d := by
 intro s s2 ha s' h
 have h1 : evalX s2.env x = evalX s.env x := jig (fun t ht => ha t (by simp [rd, ht]))
 have h2 : evalX s2.env i = evalX s.env i := jig (fun t ht => ha t (by simp [rd, ht]))
 simp only [opStep, h1, h2] at h ⊢
 repeat' split at h
 all_goals first
  | (cases h; done)
  | (cases h; exact ⟨_, rfl, by simp [*]⟩)
  | (simp only [Option.map_eq_some_iff] at h; obtain ⟨v, hv, rfl⟩ := h; exact ⟨_, rfl, by simp [*]⟩)
  | (simp only [Option.bind_eq_some_iff] at h; obtain ⟨p, hp, q, hq, h⟩ := h; split at h
     ·rename_i hc; cases h; exact ⟨_, rfl, by simp [*]⟩
     ·cases h)
theorem fills_index {d z arr agg x i} : Fills cf (.index d z arr agg x i) d := by
 intro s s2 ha s' h
 have h1 : evalX s2.env x = evalX s.env x := jig (fun t ht => ha t (by simp [rd, ht]))
 have h2 : evalX s2.env i = evalX s.env i := jig (fun t ht => ha t (by simp [rd, ht]))
 simp only [opStep, h1, h2] at h ⊢
 repeat' split at h
 all_goals first
  | (cases h; done)
  | (cases h; exact ⟨_, rfl, by simp [*]⟩)
  | (simp only [Option.map_eq_some_iff] at h; obtain ⟨v, hv, rfl⟩ := h; exact ⟨_, rfl, by simp [*]⟩)
  | (simp only [Option.bind_eq_some_iff] at h; obtain ⟨p, hp, q, hq, h⟩ := h; split at h
     ·rename_i hc; cases h; exact ⟨_, rfl, by simp [*]⟩
     ·cases h)
theorem fills_extract {d x i} : Fills cf (.extract d x i) d := by
 intro s s2 ha s' h
 have h1 : evalX s2.env x = evalX s.env x := jig (fun t ht => ha t (by simp [rd, ht]))
 simp only [opStep, h1] at h ⊢
 repeat' split at h
 all_goals first
  | (cases h; done)
  | (cases h; exact ⟨_, rfl, by simp [*]⟩)
  | (simp only [Option.map_eq_some_iff] at h; obtain ⟨v, hv, rfl⟩ := h; exact ⟨_, rfl, by simp [*]⟩)
  | (simp only [Option.bind_eq_some_iff] at h; obtain ⟨p, hp, q, hq, h⟩ := h; split at h
     ·rename_i hc; cases h; exact ⟨_, rfl, by simp [*]⟩
     ·cases h)
end
end Go.Lw
end

/-! What any operation does elsewhere, where what it looks at is the same. -/
section
namespace Go.Lw
open Go Go.RowKit
section
variable {s s' s2 : St} {cf : CallF}
def Local (cf : CallF) (i : IOp) : Prop :=
 ∀ s s2 : St, (∀ t ∈ rd i, get s2.env t = get s.env t) → HOk (cls i) s s2 → ∀ s', opStep cf s i = some s' →
  ∃ s2', opStep cf s2 i = some s2' ∧ EnvR (wr i) s'.env s2.env s2'.env ∧ HRes (cls i) s s' s2 s2'
theorem EnvR.congr {W W2 : List Nat} {e' e2 e2' : List (Nat × PV)} (h : EnvR W e' e2 e2') (hw : ∀ t, t ∈ W ↔ t ∈ W2) : EnvR W2 e' e2 e2' := fun t => by
 rw [h t]
 by_cases ht : t ∈ W
 ·simp [ht, (hw t).1 ht]
 ·have : t ∉ W2 := fun h2 => ht ((hw t).2 h2)
  simp [ht, this]
theorem EnvR.put1 {e e2 : List (Nat × PV)} (d : Nat) (v : PV) : EnvR [d] (Lw.put e d v) e2 (Lw.put e2 d v) := EnvR.put (by simp)
theorem EnvR.thenPut {W : List Nat} {e' e2 e2' : List (Nat × PV)} (h : EnvR W e' e2 e2') (d : Nat) (v : PV) : EnvR (W ++ [d]) (Lw.put e' d v) e2 (Lw.put e2' d v) :=
 h.trans (EnvR.put1 d v) (fun t ht => by rw [jj3]; simp at ht; simp [Ne.symm ht])
theorem Fills.local {i : IOp} {d : Nat} (h : Fills cf i d) (hc : cls i = 0) (hw : wr i = [d]) : Local cf i := by
 intro s s2 ha _ s' hs
 obtain ⟨v, rfl, h2⟩ := h s s2 ha s' hs
 refine ⟨_, h2, by rw [hw]; exact EnvR.put1 d v, ?_⟩
 rw [hc]; exact ⟨rfl, rfl, rfl, rfl⟩
theorem jto {d n : Nat} : Local cf (.tk d n) := by
 intro s s2 ha _ s' h
 simp only [opStep, Option.map_eq_some_iff] at h ⊢
 obtain ⟨v, hv, rfl⟩ := h
 refine ⟨_, ⟨v, by rw [ha n (by simp [rd])]; exact hv, rfl⟩, ?_, rfl, rfl, rfl, rfl⟩
 exact ((EnvR.put1 (e := s.env) (e2 := s2.env) n (degr v)).thenPut d v).congr (fun t => by simp [wr, opDst]; exact or_comm)
theorem jtp {d : Nat} {g tk : Bool} {x : IX} : Local cf (.box d g tk x) := by
 intro s s2 ha hh s' h
 obtain ⟨e2, l2, g2⟩ := s2
 have hh' : l2 = s.lh ∧ g2 = s.gh := by cases g <;> exact hh
 obtain ⟨rfl, rfl⟩ := hh'
 simp only [opStep] at h ⊢
 split at h
 ·rename_i htk
  subst htk
  simp only [Option.bind_eq_some_iff, Prod.exists] at h
  obtain ⟨v, e1, hv, h⟩ := h
  split at h
  ·rename_i hok
   cases h
   obtain ⟨e3, t1, t2⟩ := jk4 (e2 := e2) (fun t ht => ha t (by simp [rd, ht])) hv
   refine ⟨putNew ⟨e3, s.lh, s.gh⟩ d g v.cells, by simp [t1, hok], ?_, ?_⟩
   ·cases g
    ·exact (t2.thenPut d _).congr (fun t => by simp [wr, opDst]; exact or_comm)
    ·exact (t2.thenPut d _).congr (fun t => by simp [wr, opDst]; exact or_comm)
   ·cases g
    ·exact ⟨⟨v.cells, rfl⟩, rfl, rfl, rfl⟩
    ·exact ⟨rfl, rfl⟩
  ·cases h
 ·rename_i htk
  simp only [Bool.not_eq_true] at htk
  subst htk
  simp only [Option.bind_eq_some_iff] at h
  obtain ⟨v, hv, h⟩ := h
  split at h
  ·rename_i hok
   cases h
   have h1 : evalX e2 x = some v := by rw [← hv]; exact jig (fun t ht => ha t (by simp [rd, ht]))
   refine ⟨putNew ⟨e2, s.lh, s.gh⟩ d g v.cells, by simp [h1, hok], ?_, ?_⟩
   ·cases g
    ·exact (EnvR.put1 d _).congr (fun t => by simp [wr, opDst])
    ·exact (EnvR.put1 d _).congr (fun t => by simp [wr, opDst])
   ·cases g
    ·exact ⟨⟨v.cells, rfl⟩, rfl, rfl, rfl⟩
    ·exact ⟨rfl, rfl⟩
  ·cases h
theorem jtq {d : Nat} {g : Bool} {z : PV} : Local cf (.alloc d g z) := by
 intro s s2 ha hh s' h
 obtain ⟨e2, l2, g2⟩ := s2
 have hh' : l2 = s.lh ∧ g2 = s.gh := by cases g <;> exact hh
 obtain ⟨rfl, rfl⟩ := hh'
 simp only [opStep] at h ⊢
 split at h
 ·rename_i hok
  cases h
  refine ⟨putNew ⟨e2, s.lh, s.gh⟩ d g z.cells, by rw [if_pos hok], ?_, ?_⟩
  ·cases g
   ·exact (EnvR.put1 d _).congr (fun t => by simp [wr, opDst])
   ·exact (EnvR.put1 d _).congr (fun t => by simp [wr, opDst])
  ·cases g
   ·exact ⟨⟨z.cells, rfl⟩, rfl, rfl, rfl⟩
   ·exact ⟨rfl, rfl⟩
 ·cases h
theorem jtr {d : Nat} {z : List PV} {ps : List (Nat × Nat × IX)} : Local cf (.buildT d z ps) := by
 intro s s2 ha _ s' h
 simp only [opStep, Option.bind_eq_some_iff, Prod.exists] at h
 obtain ⟨vs, e1, hv, h⟩ := h
 split at h
 ·rename_i hc
  simp only [Option.map_eq_some_iff] at h
  obtain ⟨cs, hcs, rfl⟩ := h
  obtain ⟨e3, t1, t2, _⟩ := jo1 (e2 := s2.env) (fun t ht => ha t (by simp [rd, ht])) hv
  refine ⟨⟨Lw.put e3 d (.agg cs), s2.lh, s2.gh⟩, ?_, ?_, rfl, rfl, rfl, rfl⟩
  ·simp only [opStep, t1, Option.bind_some]
   rw [if_pos hc, hcs]; rfl
  ·exact (t2.thenPut d _).congr (fun t => by simp [wr, opDst]; exact or_comm)
 ·cases h
theorem jts {g : Bool} {b : Nat} {cs : List PV} (hh : HOk 2 s s2) (h : s.cellsAt g b = some cs) : ∃ cs2, s2.cellsAt g b = some cs2 ∧ cs2.map degr1 = cs.map degr1 := by
 unfold St.cellsAt at *
 split at h
 ·rename_i hg
  simp only [hg, if_true]
  split at h
  ·rename_i cs' hc
   cases h
   obtain ⟨o2, h1, h2⟩ := hh.2 b _ hc
   cases o2 with
   | cells cs2 =>
    simp only [GObj.deg, GObj.cells.injEq] at h2
    exact ⟨cs2, by rw [h1], h2⟩
   | map es => simp [GObj.deg] at h2
   | stk g xs => simp [GObj.deg] at h2
  ·cases h
 ·rename_i hg
  simp only [hg, Bool.false_eq_true, if_false]
  exact hh.1 b cs h
theorem jo2 {b : Nat} {es : List (PV × PV)} (hh : HOk 2 s s2) (h : s.gh[b]? = some (.map es)) : s2.gh[b]? = some (.map es) := by
 obtain ⟨o2, h1, h2⟩ := hh.2 b _ h
 cases o2 with
 | cells cs => simp [GObj.deg] at h2
 | map es2 => simp only [GObj.deg, GObj.map.injEq] at h2; rw [h1, h2]
 | stk g xs => simp [GObj.deg] at h2
theorem jo3 (v : PV) : degr (degr1 v) = degr v := by cases v <;> rfl
theorem jtt {agg : Bool} {k off : Nat} {cs cs2 : List PV} {v : PV} (he : cs2.map degr1 = cs.map degr1) (h : grab agg k off cs = some v) : ∃ v2, grab agg k off cs2 = some v2 ∧ degr v2 = degr v := by
 have hl : cs2.length = cs.length := by rw [← List.length_map (f := degr1) (as := cs2), he, List.length_map]
 unfold grab at h ⊢
 cases agg with
 | true =>
  simp only [if_true] at h ⊢
  split at h
  ·rename_i hk
   cases h
   rw [hl, if_pos hk]
   refine ⟨_, rfl, ?_⟩
   simp only [degr, PV.agg.injEq]
   rw [List.map_take, List.map_drop, he, List.map_take, List.map_drop]
  ·cases h
 | false =>
  simp only [Bool.false_eq_true, if_false] at h ⊢
  have h1 : (cs2.map degr1)[off]? = (cs.map degr1)[off]? := by rw [he]
  rw [List.getElem?_map, List.getElem?_map, h] at h1
  simp only [Option.map_some, Option.map_eq_some_iff] at h1
  obtain ⟨v2, h2, h3⟩ := h1
  exact ⟨v2, h2, by rw [← jo3 v2, h3, jo3]⟩
theorem jtu {d : Nat} {agg : Bool} {k : Nat} {x : IX} : Local cf (.load d agg k x) := by
 intro s s2 ha hh s' h
 have h1 : evalX s2.env x = evalX s.env x := jig (fun t ht => ha t (by simp [rd, ht]))
 simp only [opStep, h1] at h ⊢
 have fin : ∀ v, s' = s.put d v → ∀ o, o = some (s2.put d v) → ∃ s2', o = some s2' ∧ EnvR (wr (.load d agg k x)) s'.env s2.env s2'.env ∧ HRes 2 s s' s2 s2' := by
  rintro v rfl o rfl
  exact ⟨_, rfl, (EnvR.put1 d v).congr (fun t => by simp [wr, opDst]), rfl, rfl, rfl, rfl⟩
 split at h
 ·rename_i g b off hp
  simp only [Option.bind_eq_some_iff, Option.map_eq_some_iff] at h
  obtain ⟨cs, hc, v, hv, rfl⟩ := h
  obtain ⟨cs2, hc2, he⟩ := jts hh hc
  obtain ⟨v2, hv2, he2⟩ := jtt he hv
  exact fin _ rfl _ (by simp [hc2, hv2, he2])
 ·rename_i e off hp
  simp only [Option.map_eq_some_iff] at h
  obtain ⟨v, hv, rfl⟩ := h
  exact fin _ rfl _ (by simp [hv])
 ·cases h
theorem jtv {d kn : Nat} {m k : IX} {ok : Bool} {zero : PV} : Local cf (.lookup d kn m k ok zero) := by
 intro s s2 ha hh s' h
 have h1 : evalX s2.env m = evalX s.env m := jig (fun t ht => ha t (by simp [rd, ht]))
 have h2 : evalX s2.env k = evalX s.env k := jig (fun t ht => ha t (by simp [rd, ht]))
 simp only [opStep, h1, h2] at h ⊢
 have fin : ∀ v, s' = s.put d v → ∀ o, o = some (s2.put d v) → ∃ s2', o = some s2' ∧ EnvR (wr (.lookup d kn m k ok zero)) s'.env s2.env s2'.env ∧ HRes 2 s s' s2 s2' := by
  rintro v rfl o rfl
  exact ⟨_, rfl, (EnvR.put1 d v).congr (fun t => by simp [wr, opDst]), rfl, rfl, rfl, rfl⟩
 split at h
 ·rename_i b kv hp hkv
  split at h
  ·rename_i es hes
   have hes2 := jo2 hh hes
   split at h
   ·cases h
   ·rename_i hki
    split at h
    ·rename_i v hf
     cases h
     exact fin _ rfl _ (by simp [hes2, hki, hf])
    ·rename_i hf
     cases h
     exact fin _ rfl _ (by simp [hes2, hki, hf])
    ·cases h
  ·cases h
 ·cases h
theorem jtw {d kd : Nat} {x : IX} : Local cf (.len d kd x) := by
 intro s s2 ha hh s' h
 have h1 : evalX s2.env x = evalX s.env x := jig (fun t ht => ha t (by simp [rd, ht]))
 simp only [opStep, h1] at h ⊢
 have fin : ∀ v, s' = s.put d v → ∀ o, o = some (s2.put d v) → ∃ s2', o = some s2' ∧ EnvR (wr (.len d kd x)) s'.env s2.env s2'.env ∧ HRes (if kd = 2 then 2 else 0) s s' s2 s2' := by
  rintro v rfl o rfl
  refine ⟨_, rfl, (EnvR.put1 d v).congr (fun t => by simp [wr, opDst]), ?_⟩
  split <;> exact ⟨rfl, rfl, rfl, rfl⟩
 split at h
 ·rename_i hp; cases h; exact fin _ rfl _ (by simp)
 ·rename_i hp; cases h; exact fin _ rfl _ (by simp)
 ·rename_i hp; cases h; exact fin _ rfl _ (by simp)
 ·rename_i hp; cases h; exact fin _ rfl _ (by simp)
 ·rename_i hp; cases h; exact fin _ rfl _ (by simp)
 ·rename_i hp; cases h; exact fin _ rfl _ (by simp)
 ·rename_i b hp
  split at h
  ·rename_i es hes
   cases h
   exact fin _ rfl _ (by simp [jo2 (show HOk 2 s s2 from hh) hes])
  ·cases h
 ·cases h
theorem jtx {d : Nat} : Local cf (.mkmap d) := by
 intro s s2 ha hh s' h
 obtain ⟨e2, l2, g2⟩ := s2
 obtain ⟨rfl, rfl⟩ := hh
 simp only [opStep, Option.some.injEq] at h
 subst h
 exact ⟨_, rfl, (EnvR.put1 d _).congr (fun t => by simp [wr, opDst]), rfl, ⟨_, rfl⟩, rfl, rfl⟩
theorem jty {d z bytes : Nat} {g : Bool} {zero : PV} {l : IX} : Local cf (.mksl d g z bytes zero l) := by
 cases g with
 | false => exact fills_mksl.local rfl rfl
 | true =>
  intro s s2 ha hh s' h
  obtain ⟨e2, l2, g2⟩ := s2
  obtain ⟨rfl, rfl⟩ := hh
  have h1 : evalX e2 l = evalX s.env l := jig (fun t ht => ha t (by simp [rd, ht]))
  simp only [opStep, h1] at h ⊢
  split at h
  ·rename_i k n hp
   split at h
   ·rename_i hc
    cases h
    refine ⟨_, by rw [if_pos hc], ?_, ?_⟩
    ·exact (EnvR.put1 d _).congr (fun t => by simp [wr, opDst])
    ·exact ⟨rfl, rfl⟩
   ·cases h
  ·cases h
theorem jlo (s : St) (g : Bool) (b : Nat) (cs : List PV) : (s.setCells g b cs).env = s.env := by cases g <;> rfl
theorem jo4 {cs : List PV} {off : Nat} {v : PV} (h : cs[off]? = some v) : (spliceAt cs off [degr1 v]).map degr1 = cs.map degr1 := by
 have hlt := (List.getElem?_eq_some_iff.1 h).1
 apply List.ext_getElem?
 intro i
 rw [List.getElem?_map, List.getElem?_map, spliceAt, jj4 _ _ _ _ (by simp; omega)]
 by_cases h1 : i < off
 ·rw [if_pos h1]
 ·rw [if_neg h1]
  by_cases h2 : i = off
  ·subst h2
   have hd : degr1 (degr1 v) = degr1 v := by cases v <;> rfl
   simp [h, hd]
  ·rw [if_neg (by simp; omega)]
theorem jo5 {α β : Type} (f : α → β) {l : List α} {b : Nat} {x y : α} (h : l[b]? = some x) (he : f y = f x) : (l.set b y).map f = l.map f := by
 apply List.ext_getElem?
 intro k
 rw [List.getElem?_map, List.getElem?_map, List.getElem?_set]
 by_cases hk : b = k
 ·subst hk
  obtain ⟨this, rfl⟩ := List.getElem?_eq_some_iff.1 h
  simp [this, he]
 ·simp [hk]
theorem jtz {d : Nat} {x : IX} : Local cf (.loadT d x) := by
 intro s s2 ha hh s' h
 obtain ⟨e2, l2, g2⟩ := s2
 obtain ⟨rfl, rfl⟩ := hh
 have h1 : evalX e2 x = evalX s.env x := jig (fun t ht => ha t (by simp [rd, ht]))
 simp only [opStep, h1] at h ⊢
 split at h
 ·rename_i g b off hp
  simp only [Option.bind_eq_some_iff, Option.map_eq_some_iff] at h
  obtain ⟨cs, hc, v, hv, rfl⟩ := h
  have hc2 : St.cellsAt ⟨e2, s.lh, s.gh⟩ g b = some cs := hc
  refine ⟨(St.setCells ⟨e2, s.lh, s.gh⟩ g b (spliceAt cs off [degr1 v])).put d v, by simp [hc2, hv], ?_, ?_⟩
  ·simp only [St.put, jlo]
   exact (EnvR.put1 d v).congr (fun t => by simp [wr, opDst])
  ·cases g with
   | false => exact ⟨jo5 (List.map degr1) (show s.lh[b]? = some cs from hc) (jo4 hv), rfl, rfl, rfl⟩
   | true =>
    have hg : s.gh[b]? = some (.cells cs) := by
     simp only [St.cellsAt, if_true] at hc
     split at hc
     ·rename_i hx; cases hc; exact hx
     ·cases hc
    exact ⟨rfl, jo5 GObj.deg hg (by simp [GObj.deg, jo4 hv]), rfl, rfl⟩
 ·cases h
theorem ju0 {tk : Bool} {k : Nat} {x y : IX} : Local cf (.store tk k x y) := by
 intro s s2 ha hh s' h
 obtain ⟨e2, l2, g2⟩ := s2
 obtain ⟨rfl, rfl⟩ := hh
 have h1 : evalX e2 x = evalX s.env x := jig (fun t ht => ha t (by simp [rd, ht]))
 have h2 : evalX e2 y = evalX s.env y := jig (fun t ht => ha t (by simp [rd, ht]))
 simp only [opStep, h1, h2] at h ⊢
 split at h
 ·rename_i g b off hp
  split at h
  ·rename_i htk
   subst htk
   simp only [Option.bind_eq_some_iff, Prod.exists] at h
   obtain ⟨v, e1, hv, cs, hc, h⟩ := h
   split at h
   ·rename_i hk
    cases h
    obtain ⟨e3, t1, t2⟩ := jk4 (e2 := e2) (fun t ht => ha t (by simp [rd, ht])) hv
    have hc2 : St.cellsAt ⟨e3, s.lh, s.gh⟩ g b = some cs := hc
    refine ⟨St.setCells ⟨e3, s.lh, s.gh⟩ g b (spliceAt cs off v.cells), by simp [t1, hc2, hk], ?_, ?_⟩
    ·simp only [jlo]
     exact t2.congr (fun t => by simp [wr, opDst])
    ·cases g <;> exact ⟨rfl, rfl⟩
   ·cases h
  ·rename_i htk
   simp only [Bool.not_eq_true] at htk
   subst htk
   simp only [Option.bind_eq_some_iff] at h
   obtain ⟨v, hv, cs, hc, h⟩ := h
   split at h
   ·rename_i hk
    cases h
    have hc2 : St.cellsAt ⟨e2, s.lh, s.gh⟩ g b = some cs := hc
    refine ⟨St.setCells ⟨e2, s.lh, s.gh⟩ g b (spliceAt cs off v.cells), by simp [hv, hc2, hk], ?_, ?_⟩
    ·simp only [jlo]
     exact EnvR.refl (fun t => by simp [wr, opDst])
    ·cases g <;> exact ⟨rfl, rfl⟩
   ·cases h
 ·cases h
theorem ju1 {kn : Nat} {m k x : IX} : Local cf (.mupd kn m k x) := by
 intro s s2 ha hh s' h
 obtain ⟨e2, l2, g2⟩ := s2
 obtain ⟨rfl, rfl⟩ := hh
 have h1 : evalX e2 m = evalX s.env m := jig (fun t ht => ha t (by simp [rd, ht]))
 have h2 : evalX e2 k = evalX s.env k := jig (fun t ht => ha t (by simp [rd, ht]))
 have h3 : evalX e2 x = evalX s.env x := jig (fun t ht => ha t (by simp [rd, ht]))
 simp only [opStep, h1, h2, h3] at h ⊢
 split at h
 ·rename_i b kv v hp hkv hv
  split at h
  ·rename_i es hes
   split at h
   ·rename_i hc
    simp only [Option.map_eq_some_iff] at h
    obtain ⟨es', hs, rfl⟩ := h
    refine ⟨⟨e2, s.lh, s.gh.set b (.map es')⟩, ?_, EnvR.refl (fun t => by simp [wr, opDst]), rfl, rfl⟩
    rw [if_pos hc, hs]; rfl
   ·cases h
  ·cases h
 ·cases h
theorem jo6 {e e2 : List (Nat × PV)} (d : Option Nat) (v : PV) : EnvR d.toList (putO e d v) e2 (putO e2 d v) := by
 cases d with
 | none => exact EnvR.refl (by simp)
 | some d => exact EnvR.put (by simp)
theorem jlp {d : Option Nat} {q : Bool} {f : Nat} {vs : List PV} (hh : HOk (if q then 1 else 5) s s2) (h : doCall cf s d q f vs = some s') :
  ∃ s2', doCall cf s2 d q f vs = some s2' ∧ EnvR d.toList s'.env s2.env s2'.env ∧ HRes (if q then 1 else 5) s s' s2 s2' := by
 have hgh : s2.gh = s.gh := by
  cases q
  ·exact hh.2
  ·exact hh
 unfold doCall at h ⊢
 split at h
 ·rename_i hok
  rw [if_pos hok, hgh]
  split at h
  ·rename_i r gh' hc
   split at h
   ·rename_i hq
    subst hq
    split at h
    ·rename_i he
     cases h
     refine ⟨⟨putO s2.env d r, s2.lh, s2.gh⟩, by simp [he, hgh], jo6 d r, rfl, rfl, rfl, rfl⟩
    ·cases h
   ·rename_i hq
    simp only [Bool.not_eq_true] at hq
    subst hq
    cases h
    exact ⟨⟨putO s2.env d r, s2.lh, gh'⟩, by simp, jo6 d r, hh.1, rfl⟩
  ·cases h
 ·cases h
theorem ju2 {d : Option Nat} {q : Bool} {f : Nat} {xs : List IX} : Local cf (.call d q f xs) := by
 intro s s2 ha hh s' h
 have h1 : evalXs s2.env xs = evalXs s.env xs := jk3 (fun t ht => ha t (by simp [rd, ht]))
 simp only [opStep, h1, Option.bind_eq_some_iff] at h ⊢
 obtain ⟨vs, hv, h⟩ := h
 obtain ⟨s2', c1, c2, c3⟩ := jlp (s2 := s2) hh h
 exact ⟨s2', ⟨vs, hv, c1⟩, by simpa [wr, opDst] using c2, c3⟩
theorem ju3 {d : Option Nat} {q : Bool} {f : IX} {xs : List IX} : Local cf (.callv d q f xs) := by
 intro s s2 ha hh s' h
 have h0 : evalX s2.env f = evalX s.env f := jig (fun t ht => ha t (by simp [rd, ht]))
 have h1 : evalXs s2.env xs = evalXs s.env xs := jk3 (fun t ht => ha t (by simp [rd, ht]))
 simp only [opStep, h0, h1] at h ⊢
 split at h
 ·rename_i f caps hp
  simp only [Option.bind_eq_some_iff] at h
  obtain ⟨vs, hv, h⟩ := h
  obtain ⟨s2', c1, c2, c3⟩ := jlp (s2 := s2) hh h
  exact ⟨s2', by simp [hv, c1], by simpa [wr, opDst] using c2, c3⟩
 ·rename_i f caps hp
  simp only [Option.bind_eq_some_iff] at h
  obtain ⟨vs, hv, h⟩ := h
  obtain ⟨s2', c1, c2, c3⟩ := jlp (s2 := s2) hh h
  exact ⟨s2', by simp [hv, c1], by simpa [wr, opDst] using c2, c3⟩
 ·cases h
theorem ju4 {d z bytes : Nat} {sx x : IX} : Local cf (.append d z bytes sx x) := by
 intro s s2 ha hh s' h
 have h1 : evalX s2.env x = evalX s.env x := jig (fun t ht => ha t (by simp [rd, ht]))
 simp only [opStep, h1, Option.bind_eq_some_iff] at h ⊢
 obtain ⟨xv, hxv, h⟩ := h
 cases xv with
 | sl o2 z2 ys =>
  simp only [Option.bind_eq_some_iff, Prod.exists] at h
  obtain ⟨v, e1, hv, h⟩ := h
  cases v with
  | sl o z1 xs =>
   simp only at h
   split at h
   ·rename_i hc
    cases h
    obtain ⟨e3, t1, t2⟩ := jk4 (e2 := s2.env) (fun t ht => ha t (by simp [rd, ht])) hv
    refine ⟨⟨Lw.put e3 d (.sl true z (xs ++ ys)), s2.lh, s2.gh⟩, ⟨_, hxv, by simp only [t1, Option.bind_some]; rw [if_pos hc]⟩, ?_, rfl, rfl, rfl, rfl⟩
    exact (t2.thenPut d _).congr (fun t => by simp [wr, opDst]; exact or_comm)
   ·cases h
  | _ => cases h
 | _ => cases h
theorem ju5 (i : IOp) : Local cf i := by
 cases i with
 | callP => exact fun _ _ _ _ _ h => by simp [opStep] at h
 | callR => exact fun _ _ _ _ _ h => by simp [opStep] at h
 | loadB => exact fun _ _ _ _ _ h => by simp [opStep] at h
 | appendE => exact fun _ _ _ _ _ h => by simp [opStep] at h
 | loadKB => exact fun _ _ _ _ _ h => by simp [opStep] at h
 | loadTB => exact fun _ _ _ _ _ h => by simp [opStep] at h
 | loadJ => exact fun _ _ _ _ _ h => by simp [opStep] at h
 | appendP => exact fun _ _ _ _ _ h => by simp [opStep] at h
 | mkarr => exact fun _ _ _ _ _ h => by simp [opStep] at h
 | buildA => exact fun _ _ _ _ _ h => by simp [opStep] at h
 | tk => exact jto
 | box => exact jtp
 | alloc => exact jtq
 | buildT => exact jtr
 | load => exact jtu
 | loadN => exact fun _ _ _ _ _ h => by simp [opStep] at h
 | lookup => exact jtv
 | len => exact jtw
 | mkmap => exact jtx
 | mksl => exact jty
 | loadT => exact jtz
 | loadL => exact fun _ _ _ _ _ h => by simp [opStep] at h
 | store => exact ju0
 | mupd => exact ju1
 | call => exact ju2
 | callv => exact ju3
 | callF => exact fun _ _ _ _ _ h => by simp [opStep] at h
 | callE => exact fun _ _ _ _ _ h => by simp [opStep] at h
 | append => exact ju4
 | appendK => exact fun _ _ _ _ _ h => by simp [opStep] at h
 | appendN => exact fun _ _ _ _ _ h => by simp [opStep] at h
 | buildSlK => exact fun _ _ _ _ _ h => by simp [opStep] at h
 | loadK => exact fun _ _ _ _ _ h => by simp [opStep] at h
 | loadH => exact fun _ _ _ _ _ h => by simp [opStep] at h
 | mv => exact fills_mv.local rfl rfl
 | pick => exact fills_pick.local rfl rfl
 | build => exact fills_build.local rfl rfl
 | buildSl => exact fills_buildSl.local rfl rfl
 | nilc => exact fills_nilc.local rfl rfl
 | bin => exact fills_bin.local rfl rfl
 | eqa => exact fun _ _ _ _ _ h => by simp [opStep] at h
 | eqb => exact fills_eqb.local rfl rfl
 | eqn => exact fills_eqn.local rfl rfl
 | un => exact fills_un.local rfl rfl
 | conv => exact fun _ _ _ _ _ h => by simp [opStep] at h
 | mkfn => exact fills_mkfn.local rfl rfl
 | mkbf => exact fun _ _ _ _ _ h => by simp [opStep] at h
 | storeK => exact fun _ _ _ _ _ h => by simp [opStep] at h
 | clearK => exact fun _ _ _ _ _ h => by simp [opStep] at h
 | slice => exact fills_slice.local rfl rfl
 | sliceS => exact fun _ _ _ _ _ h => by simp [opStep] at h
 | faddr => exact fills_faddr.local rfl rfl
 | field => exact fun _ _ _ _ _ h => by simp [opStep] at h
 | iaddr => exact fills_iaddr.local rfl rfl
 | index => exact fills_index.local rfl rfl
 | indexS => exact fun _ _ _ _ _ h => by simp [opStep] at h
 | maxi => exact fun _ _ _ _ _ h => by simp [opStep] at h
 | extract => exact fills_extract.local rfl rfl
end
end Go.Lw
end

/-! Two operations that do not meet change places; one that meets none of those ahead of it goes to the front. -/
section
namespace Go.Lw
open Go Go.RowKit
section
variable {s s' s1 s2 t1 t2 : St} {cf : CallF}
def HRes2 (c : Nat) (s s' s2 s2' : St) : Prop :=
 match c with
 | 0 | 1 | 2 | 8 => s'.lh = s.lh ∧ s'.gh = s.gh ∧ s2'.lh = s2.lh ∧ s2'.gh = s2.gh
 | 3 => (∀ (b : Nat) (cs : List PV), s.lh[b]? = some cs → s'.lh[b]? = some cs) ∧ s'.gh = s.gh ∧ s2'.lh = s'.lh ∧ s2'.gh = s'.gh
 | 4 => s'.lh = s.lh ∧ (∀ (b : Nat) (o : GObj), s.gh[b]? = some o → s'.gh[b]? = some o) ∧ s2'.lh = s'.lh ∧ s2'.gh = s'.gh
 | 6 => s'.lh.map (List.map degr1) = s.lh.map (List.map degr1) ∧ s'.gh = s.gh ∧ s2'.lh = s'.lh ∧ s2'.gh = s'.gh
 | 7 => s'.lh.map (List.map degr1) = s.lh.map (List.map degr1) ∧ s'.gh.map GObj.deg = s.gh.map GObj.deg ∧ s2'.lh = s'.lh ∧ s2'.gh = s'.gh
 | 9 => s'.lh = s.lh ∧ (∀ (b : Nat) (o : GObj), s.gh[b]? = some o → ∃ o2, s'.gh[b]? = some o2 ∧ o2.deg = o.deg) ∧ s2'.lh = s'.lh ∧ s2'.gh = s'.gh
 | _ => s2'.lh = s'.lh ∧ s2'.gh = s'.gh
theorem HRes.two {c : Nat} (h : HRes c s s' s2 s1) : HRes2 c s s' s2 s1 := by
 match c, h with
 | 0, h => exact h
 | 1, h => exact h
 | 2, h => exact h
 | 3, ⟨⟨cs, h1⟩, h2⟩ => exact ⟨fun b cs' hb => by rw [h1, List.getElem?_append_left (List.getElem?_eq_some_iff.1 hb).1]; exact hb, h2⟩
 | 4, ⟨h0, ⟨o, h1⟩, h2⟩ => exact ⟨h0, fun b o' hb => by rw [h1, List.getElem?_append_left (List.getElem?_eq_some_iff.1 hb).1]; exact hb, h2⟩
 | 5, h => exact h
 | 6, h => exact h
 | 7, h => exact h
 | 8, h => exact h
 | 9, h => exact h
 | n + 10, h => exact h
def rdG (i : IOpG) : List Nat := (match i.guard with | some (g, _) => [g] | none => []) ++ rd i.op
theorem wr_rd {i : IOp} {t : Nat} (h : t ∈ wr i) : opDst i = some t ∨ t ∈ rd i := by
 simp only [wr, List.mem_append, Option.mem_toList] at h
 rcases h with h | h
 ·exact .inl h
 ·right
  split at h <;> first | (simp at h; done) | (simpa [rd] using h) | (simp [rd]; first | exact .inl h | exact .inr h | exact h)
theorem jk5 (i : IOpG) (ha : ∀ t ∈ rdG i, get s2.env t = get s.env t) (hh : HOk (cls i.op) s s2) (h : opG cf i s = some s') :
  ∃ s2', opG cf i s2 = some s2' ∧ EnvR (wr i.op) s'.env s2.env s2'.env ∧ HRes2 (cls i.op) s s' s2 s2' := by
 have hstep : ∀ s', opStep cf s i.op = some s' → ∃ s2', opStep cf s2 i.op = some s2' ∧ EnvR (wr i.op) s'.env s2.env s2'.env ∧ HRes2 (cls i.op) s s' s2 s2' := fun s' hs => by
  obtain ⟨s2', h1, h2, h3⟩ := ju5 i.op s s2 (fun t ht => ha t (by simp [rdG, ht])) hh s' hs
  exact ⟨s2', h1, h2, h3.two⟩
 have hskip : EnvR (wr i.op) (skipped s i.op).env s2.env (skipped s2 i.op).env ∧ HRes2 (cls i.op) s (skipped s i.op) s2 (skipped s2 i.op) := by
  refine ⟨fun t => ?_, ?_⟩
  ·by_cases ht : t ∈ wr i.op
   ·rw [if_pos ht]
    unfold skipped
    cases hd : opDst i.op with
    | none =>
     have := (wr_rd ht).resolve_left (by simp [hd])
     exact ha t (by simp [rdG, this])
    | some d =>
     simp only [St.put, jj3]
     by_cases hdt : d = t
     ·simp [hdt]
     ·have := (wr_rd ht).resolve_left (by simp [hd, hdt])
      simp only [hdt, if_false]
      exact ha t (by simp [rdG, this])
   ·rw [if_neg ht]
    unfold skipped
    cases hd : opDst i.op with
    | none => rfl
    | some d =>
     have : d ≠ t := fun e => ht (by subst e; simp [wr, hd])
     simp [St.put, jj3, this]
  ·have e1 : (skipped s i.op).lh = s.lh ∧ (skipped s i.op).gh = s.gh := by unfold skipped; cases opDst i.op <;> exact ⟨rfl, rfl⟩
   have e2 : (skipped s2 i.op).lh = s2.lh ∧ (skipped s2 i.op).gh = s2.gh := by unfold skipped; cases opDst i.op <;> exact ⟨rfl, rfl⟩
   generalize cls i.op = c at hh
   match c, hh with
   | 0, _ => exact ⟨e1.1, e1.2, e2.1, e2.2⟩
   | 1, _ => exact ⟨e1.1, e1.2, e2.1, e2.2⟩
   | 2, _ => exact ⟨e1.1, e1.2, e2.1, e2.2⟩
   | 3, ⟨h1, h2⟩ => exact ⟨fun b cs hb => by rw [e1.1]; exact hb, e1.2, by rw [e1.1, e2.1, h1], by rw [e1.2, e2.2, h2]⟩
   | 4, ⟨h1, h2⟩ => exact ⟨e1.1, fun b cs hb => by rw [e1.2]; exact hb, by rw [e1.1, e2.1, h1], by rw [e1.2, e2.2, h2]⟩
   | 5, ⟨h1, h2⟩ => exact ⟨by rw [e1.1, e2.1, h1], by rw [e1.2, e2.2, h2]⟩
   | 6, ⟨h1, h2⟩ => exact ⟨by rw [e1.1], e1.2, by rw [e1.1, e2.1, h1], by rw [e1.2, e2.2, h2]⟩
   | 7, ⟨h1, h2⟩ => exact ⟨by rw [e1.1], by rw [e1.2], by rw [e1.1, e2.1, h1], by rw [e1.2, e2.2, h2]⟩
   | 8, _ => exact ⟨e1.1, e1.2, e2.1, e2.2⟩
   | 9, ⟨h1, h2⟩ => exact ⟨e1.1, fun b o hb => ⟨o, by rw [e1.2]; exact hb, rfl⟩, by rw [e1.1, e2.1, h1], by rw [e1.2, e2.2, h2]⟩
   | n + 10, ⟨h1, h2⟩ => exact ⟨by rw [e1.1, e2.1, h1], by rw [e1.2, e2.2, h2]⟩
 unfold opG at h ⊢
 cases hg : i.guard with
 | none => rw [hg] at h; exact hstep s' h
 | some q =>
  obtain ⟨g, want⟩ := q
  rw [hg] at h
  have hgg : get s2.env g = get s.env g := ha g (by simp [rdG, hg])
  simp only at h ⊢
  rw [hgg]
  split at h
  ·split at h
   ·rename_i hw
    simp only [hw, if_true]
    exact hstep s' h
   ·rename_i hw
    cases h
    simp only [if_neg hw]
    exact ⟨_, rfl, hskip⟩
  ·cases h
   exact ⟨_, rfl, hskip⟩
  ·cases h
theorem jlq (i : IOpG) (h : opG cf i s = some s') {t : Nat} (ht : t ∉ wr i.op) : get s'.env t = get s.env t := by
 have hh : HOk (cls i.op) s s := by
  generalize cls i.op = c
  match c with
  | 0 => trivial
  | 1 => rfl
  | 2 => exact ⟨fun _ cs h => ⟨cs, h, rfl⟩, fun _ o h => ⟨o, h, rfl⟩⟩
  | 3 | 4 | 5 | 6 | 7 => exact ⟨rfl, rfl⟩
  | 8 => exact (rfl : s.lh = s.lh)
  | 9 => exact ⟨rfl, rfl⟩
  | n + 10 => exact ⟨rfl, rfl⟩
 obtain ⟨s2', h1, h2, _⟩ := jk5 (s2 := s) i (fun _ _ => rfl) hh h
 rw [h] at h1; cases h1
 have := h2 t
 rwa [if_neg ht] at this
theorem ju6 (i : IOpG) (h : opG cf i s = some s') : HRes2 (cls i.op) s s' s s' := by
 have hh : HOk (cls i.op) s s := by
  generalize cls i.op = c
  match c with
  | 0 => trivial
  | 1 => rfl
  | 2 => exact ⟨fun _ cs h => ⟨cs, h, rfl⟩, fun _ o h => ⟨o, h, rfl⟩⟩
  | 3 | 4 | 5 | 6 | 7 => exact ⟨rfl, rfl⟩
  | 8 => exact (rfl : s.lh = s.lh)
  | 9 => exact ⟨rfl, rfl⟩
  | n + 10 => exact ⟨rfl, rfl⟩
 obtain ⟨s2', h1, _, h3⟩ := jk5 (s2 := s) i (fun _ _ => rfl) hh h
 rw [h] at h1; cases h1
 exact h3
def clsOk (p x : Nat) : Bool := p == 0 || (x == 0 || ((decide (p ≤ 2) && decide (x ≤ 2)) || ((p == 1 && x == 3) || ((p == 2 && x == 3) || ((p == 2 && x == 4) || ((p == 3 && x == 1) || ((p == 1 && x == 6) || ((p == 6 && x == 1) || ((p == 2 && x == 6) || ((p == 2 && x == 7) || ((p == 6 && x == 2) || ((p == 7 && x == 2) || ((p == 4 && x == 8) || ((p == 8 && x == 8) || (p == 2 && x == 9)))))))))))))))
def apartS (p x : IOpG) : Bool := (wr p.op).all (fun t => !(rdG x).contains t && !(wr x.op).contains t) && (wr x.op).all (fun t => !(rdG p).contains t)
def Eqv (s s2 : St) : Prop := (∀ t, get s2.env t = get s.env t) ∧ s2.lh = s.lh ∧ s2.gh = s.gh
theorem ok_le {p x : Nat} (h : clsOk p x = true) : (p = 0) ∨ (x = 0) ∨ (p ≤ 2 ∧ x ≤ 2) ∨ (p = 1 ∧ x = 3) ∨ (p = 2 ∧ x = 3) ∨ (p = 2 ∧ x = 4) ∨ (p = 3 ∧ x = 1) ∨ (p = 1 ∧ x = 6) ∨ (p = 6 ∧ x = 1) ∨ (p = 2 ∧ x = 6) ∨ (p = 2 ∧ x = 7) ∨ (p = 6 ∧ x = 2) ∨ (p = 7 ∧ x = 2) ∨ (p = 4 ∧ x = 8) ∨ (p = 8 ∧ x = 8) ∨ (p = 2 ∧ x = 9) := by
 simpa only [clsOk, Bool.or_eq_true, Bool.and_eq_true, beq_iff_eq, decide_eq_true_eq] using h
theorem ji8 {c : Nat} (hc : c ≤ 2) (h : HRes2 c s s' s2 s1) : s'.lh = s.lh ∧ s'.gh = s.gh ∧ s1.lh = s2.lh ∧ s1.gh = s2.gh := by
 match c, hc, h with
 | 0, _, h => exact h
 | 1, _, h => exact h
 | 2, _, h => exact h
theorem res_eq {c : Nat} (h : HRes2 c s s' s2 s1) (e1 : s2.lh = s.lh) (e2 : s2.gh = s.gh) : s1.lh = s'.lh ∧ s1.gh = s'.gh := by
 match c, h with
 | 0, h => exact ⟨by rw [h.2.2.1, e1, h.1], by rw [h.2.2.2, e2, h.2.1]⟩
 | 1, h => exact ⟨by rw [h.2.2.1, e1, h.1], by rw [h.2.2.2, e2, h.2.1]⟩
 | 2, h => exact ⟨by rw [h.2.2.1, e1, h.1], by rw [h.2.2.2, e2, h.2.1]⟩
 | 3, h => exact h.2.2
 | 4, h => exact h.2.2
 | 5, h => exact h
 | 6, h => exact h.2.2
 | 7, h => exact h.2.2
 | 8, h => exact ⟨by rw [h.2.2.1, e1, h.1], by rw [h.2.2.2, e2, h.2.1]⟩
 | 9, h => exact h.2.2
 | n + 10, h => exact h
theorem hok_eq {c : Nat} (e1 : s2.lh = s.lh) (e2 : s2.gh = s.gh) : HOk c s s2 := by
 match c with
 | 0 => trivial
 | 1 => exact e2
 | 2 => exact ⟨fun b cs h => ⟨cs, by rw [e1]; exact h, rfl⟩, fun b o h => ⟨o, by rw [e2]; exact h, rfl⟩⟩
 | 3 | 4 | 5 | 6 | 7 => exact ⟨e1, e2⟩
 | 8 => exact e1
 | 9 => exact ⟨e1, e2⟩
 | n + 10 => exact ⟨e1, e2⟩
theorem jjm {α β : Type} (f : α → β) {l l' : List α} (h : l'.map f = l.map f) {b : Nat} {x : α} (hx : l[b]? = some x) : ∃ y, l'[b]? = some y ∧ f y = f x := by
 have h1 : (l'.map f)[b]? = (l.map f)[b]? := by rw [h]
 rw [List.getElem?_map, List.getElem?_map, hx] at h1
 simpa using h1
theorem swap {p x : IOpG} (ha : apartS p x = true) (hc : clsOk (cls p.op) (cls x.op) = true) (h1 : opG cf p s = some s1) (h2 : opG cf x s1 = some s2) :
  ∃ t1 t2, opG cf x s = some t1 ∧ opG cf p t1 = some t2 ∧ Eqv s2 t2 := by
 simp only [apartS, Bool.and_eq_true, List.all_eq_true, Bool.not_eq_true', List.contains_eq_mem, decide_eq_false_iff_not] at ha
 obtain ⟨a1, a2⟩ := ha
 have r1 := ju6 p h1
 have f1 := fun t ht => jlq (t := t) p h1 ht
 have f2 := fun t ht => jlq (t := t) x h2 ht
 have hx : HOk (cls x.op) s1 s := by
  rcases ok_le hc with e | e | ⟨e, _⟩ | ⟨e, _⟩ | ⟨e, _⟩ | ⟨e, _⟩ | ⟨e, e'⟩ | ⟨e, _⟩ | ⟨e, e'⟩ | ⟨e, _⟩ | ⟨e, _⟩ | ⟨e, e'⟩ | ⟨e, e'⟩ | ⟨e, e'⟩ | ⟨e, e'⟩ | ⟨e, e'⟩
  ·have := ji8 (by omega) r1; exact hok_eq this.1.symm this.2.1.symm
  ·rw [e]; trivial
  ·have := ji8 (by omega) r1; exact hok_eq this.1.symm this.2.1.symm
  ·have := ji8 (by omega) r1; exact hok_eq this.1.symm this.2.1.symm
  ·have := ji8 (by omega) r1; exact hok_eq this.1.symm this.2.1.symm
  ·have := ji8 (by omega) r1; exact hok_eq this.1.symm this.2.1.symm
  ·rw [e] at r1; rw [e']; exact r1.2.1.symm
  ·have := ji8 (by omega) r1; exact hok_eq this.1.symm this.2.1.symm
  ·rw [e] at r1; rw [e']; exact r1.2.1.symm
  ·have := ji8 (by omega) r1; exact hok_eq this.1.symm this.2.1.symm
  ·have := ji8 (by omega) r1; exact hok_eq this.1.symm this.2.1.symm
  ·rw [e] at r1; rw [e']; exact ⟨fun b cs => jjm _ r1.1.symm, fun b o hb => ⟨o, by rw [← r1.2.1]; exact hb, rfl⟩⟩
  ·rw [e] at r1; rw [e']; exact ⟨fun b cs => jjm _ r1.1.symm, fun b o => jjm _ r1.2.1.symm⟩
  ·rw [e] at r1; rw [e']; exact r1.1.symm
  ·rw [e] at r1; rw [e']; exact r1.1.symm
  ·have := ji8 (by omega) r1; exact hok_eq this.1.symm this.2.1.symm
 obtain ⟨t1, g1, g2, g3⟩ := jk5 (s2 := s) x (fun t ht => (f1 t (fun hw => (a1 t hw).1 ht)).symm) hx h2
 have hp : HOk (cls p.op) s t1 := by
  rcases ok_le hc with e | e | ⟨e, e'⟩ | ⟨e, e'⟩ | ⟨e, e'⟩ | ⟨e, e'⟩ | ⟨e, e'⟩ | ⟨e, e'⟩ | ⟨e, e'⟩ | ⟨e, e'⟩ | ⟨e, e'⟩ | ⟨e, e'⟩ | ⟨e, e'⟩ | ⟨e, e'⟩ | ⟨e, e'⟩ | ⟨e, e'⟩
  ·rw [e]; trivial
  ·have := ji8 (by omega) g3; exact hok_eq this.2.2.1 this.2.2.2
  ·have := ji8 (by omega) g3; exact hok_eq this.2.2.1 this.2.2.2
  ·rw [e'] at g3
   have := ji8 (by omega) r1
   rw [e]; exact g3.2.2.2.trans (g3.2.1.trans this.2.1)
  ·rw [e'] at g3
   have := ji8 (by omega) r1
   rw [e]
   exact ⟨fun b cs hb => ⟨cs, by rw [g3.2.2.1]; exact g3.1 b cs (by rw [this.1]; exact hb), rfl⟩, fun b o hb => ⟨o, by rw [g3.2.2.2, g3.2.1, this.2.1]; exact hb, rfl⟩⟩
  ·rw [e'] at g3
   have := ji8 (by omega) r1
   rw [e]
   exact ⟨fun b cs hb => ⟨cs, by rw [g3.2.2.1, g3.1, this.1]; exact hb, rfl⟩, fun b o hb => ⟨o, by rw [g3.2.2.2]; exact g3.2.1 b o (by rw [this.2.1]; exact hb), rfl⟩⟩
  ·have := ji8 (by omega) g3; exact hok_eq this.2.2.1 this.2.2.2
  ·rw [e'] at g3
   have := ji8 (by omega) r1
   rw [e]; exact g3.2.2.2.trans (g3.2.1.trans this.2.1)
  ·have := ji8 (by omega) g3; exact hok_eq this.2.2.1 this.2.2.2
  ·rw [e'] at g3
   have := ji8 (by omega) r1
   rw [e]
   refine ⟨fun b cs hb => ?_, fun b o hb => ⟨o, by rw [g3.2.2.2, g3.2.1, this.2.1]; exact hb, rfl⟩⟩
   rw [g3.2.2.1]; exact jjm _ g3.1 (by rw [this.1]; exact hb)
  ·rw [e'] at g3
   have := ji8 (by omega) r1
   rw [e]
   refine ⟨fun b cs hb => ?_, fun b o hb => ?_⟩
   ·rw [g3.2.2.1]; exact jjm _ g3.1 (by rw [this.1]; exact hb)
   ·rw [g3.2.2.2]; exact jjm _ g3.2.1 (by rw [this.2.1]; exact hb)
  ·have := ji8 (by omega) g3; exact hok_eq this.2.2.1 this.2.2.2
  ·have := ji8 (by omega) g3; exact hok_eq this.2.2.1 this.2.2.2
  ·rw [e'] at g3; exact hok_eq g3.2.2.1 g3.2.2.2
  ·rw [e'] at g3; exact hok_eq g3.2.2.1 g3.2.2.2
  ·rw [e'] at g3
   have := ji8 (by omega) r1
   rw [e]
   exact ⟨fun b cs hb => ⟨cs, by rw [g3.2.2.1, g3.1, this.1]; exact hb, rfl⟩, fun b o hb => by rw [g3.2.2.2]; exact g3.2.1 b o (by rw [this.2.1]; exact hb)⟩
 obtain ⟨t2, k1, k2, k3⟩ := jk5 (s2 := t1) p (fun t ht => by rw [g2 t, if_neg (fun hw => a2 t hw ht)]) hp h1
 refine ⟨t1, t2, g1, k1, fun t => ?_, ?_⟩
 ·rw [k2 t]
  by_cases hw : t ∈ wr p.op
  ·rw [if_pos hw, f2 t (a1 t hw).2]
  ·rw [if_neg hw, g2 t]
   by_cases hw2 : t ∈ wr x.op
   ·rw [if_pos hw2]
   ·rw [if_neg hw2, f2 t hw2, f1 t hw]
 · -- the boxes
  rcases ok_le hc with e | e | ⟨e, e'⟩ | ⟨e, e'⟩ | ⟨e, e'⟩ | ⟨e, e'⟩ | ⟨e, e'⟩ | ⟨e, e'⟩ | ⟨e, e'⟩ | ⟨e, e'⟩ | ⟨e, e'⟩ | ⟨e, e'⟩ | ⟨e, e'⟩ | ⟨e, e'⟩ | ⟨e, e'⟩ | ⟨e, e'⟩
  ·have q1 := ji8 (by omega) r1
   have q2 := ji8 (by omega) k3
   have q3 := res_eq g3 q1.1.symm q1.2.1.symm
   exact ⟨q2.2.2.1.trans q3.1, q2.2.2.2.trans q3.2⟩
  ·have q2 := ji8 (by omega) g3
   have q3 := res_eq k3 q2.2.2.1 q2.2.2.2
   exact ⟨q3.1.trans q2.1.symm, q3.2.trans q2.2.1.symm⟩
  ·have q2 := ji8 (by omega) g3
   have q3 := res_eq k3 q2.2.2.1 q2.2.2.2
   exact ⟨q3.1.trans q2.1.symm, q3.2.trans q2.2.1.symm⟩
  ·have q1 := ji8 (by omega) r1
   have q2 := ji8 (by omega) k3
   have q3 := res_eq g3 q1.1.symm q1.2.1.symm
   exact ⟨q2.2.2.1.trans q3.1, q2.2.2.2.trans q3.2⟩
  ·have q1 := ji8 (by omega) r1
   have q2 := ji8 (by omega) k3
   have q3 := res_eq g3 q1.1.symm q1.2.1.symm
   exact ⟨q2.2.2.1.trans q3.1, q2.2.2.2.trans q3.2⟩
  ·have q1 := ji8 (by omega) r1
   have q2 := ji8 (by omega) k3
   have q3 := res_eq g3 q1.1.symm q1.2.1.symm
   exact ⟨q2.2.2.1.trans q3.1, q2.2.2.2.trans q3.2⟩
  ·have q2 := ji8 (by omega) g3
   have q3 := res_eq k3 q2.2.2.1 q2.2.2.2
   exact ⟨q3.1.trans q2.1.symm, q3.2.trans q2.2.1.symm⟩
  ·have q1 := ji8 (by omega) r1
   have q2 := ji8 (by omega) k3
   have q3 := res_eq g3 q1.1.symm q1.2.1.symm
   exact ⟨q2.2.2.1.trans q3.1, q2.2.2.2.trans q3.2⟩
  ·have q2 := ji8 (by omega) g3
   have q3 := res_eq k3 q2.2.2.1 q2.2.2.2
   exact ⟨q3.1.trans q2.1.symm, q3.2.trans q2.2.1.symm⟩
  ·have q1 := ji8 (by omega) r1
   have q2 := ji8 (by omega) k3
   have q3 := res_eq g3 q1.1.symm q1.2.1.symm
   exact ⟨q2.2.2.1.trans q3.1, q2.2.2.2.trans q3.2⟩
  ·have q1 := ji8 (by omega) r1
   have q2 := ji8 (by omega) k3
   have q3 := res_eq g3 q1.1.symm q1.2.1.symm
   exact ⟨q2.2.2.1.trans q3.1, q2.2.2.2.trans q3.2⟩
  ·have q2 := ji8 (by omega) g3
   have q3 := res_eq k3 q2.2.2.1 q2.2.2.2
   exact ⟨q3.1.trans q2.1.symm, q3.2.trans q2.2.1.symm⟩
  ·have q2 := ji8 (by omega) g3
   have q3 := res_eq k3 q2.2.2.1 q2.2.2.2
   exact ⟨q3.1.trans q2.1.symm, q3.2.trans q2.2.1.symm⟩
  ·have q2 := g3
   rw [e'] at q2
   have q3 := res_eq k3 q2.2.2.1 q2.2.2.2
   exact ⟨q3.1.trans q2.1.symm, q3.2.trans q2.2.1.symm⟩
  ·have q2 := g3
   rw [e'] at q2
   have q3 := res_eq k3 q2.2.2.1 q2.2.2.2
   exact ⟨q3.1.trans q2.1.symm, q3.2.trans q2.2.1.symm⟩
  ·have q1 := ji8 (by omega) r1
   have q2 := ji8 (by omega) k3
   have q3 := res_eq g3 q1.1.symm q1.2.1.symm
   exact ⟨q2.2.2.1.trans q3.1, q2.2.2.2.trans q3.2⟩
end
end Go.Lw
end

/-! What the functions of package word come to. -/
section
namespace Go.Lw
open Go
def shapesZ : List (Int × Int) := [(4, 1), (5, 1), (6, 2), (7, 2), (8, 2), (9, 2), (10, 2), (11, 2), (12, 2), (13, 2), (14, 2), (15, 2), (16, 3), (17, 3), (18, 3), (19, 4), (20, 5), (21, 6), (22, 7), (23, 7)]
theorem jj1 (gh : List GObj) : callL pg 61 [] gh = some (.mp gh.length, gh ++ [.map (mapI shapesZ)]) := by
 refine ji3 (fn := q83) (s := ⟨[(0, .mp gh.length)], [], gh ++ [.map (mapI shapesZ)]⟩) rfl rfl (qdt_ ?h) ?r
 case h =>
  rw [qdt, show ([.map []] : List GObj) = [.map (mapI [])] from rfl]
  repeat rw [jm6]
  rfl
 case r => simp [finish, results, q83, resOfs, resOf, resOk]
def shapeOf (k : Int) : Option Int :=
 if k < 4 then none else if k < 6 then some 1 else if k < 16 then some 2 else if k < 19 then some 3 else if k = 19 then some 4 else if k = 20 then some 5
 else if k = 21 then some 6 else if k < 24 then some 7 else none
theorem jp4 (k : Int) : findI shapesZ k = shapeOf k := by
 by_cases h : 4 ≤ k ∧ k < 24
 ·obtain ⟨n, rfl⟩ : ∃ n : Fin 20, k = 4 + (n.val : Int) := ⟨⟨(k - 4).toNat, by omega⟩, by simp; omega⟩
  revert n; decide
 ·have : ∀ l : List (Int × Int), (∀ x ∈ l, 4 ≤ x.1 ∧ x.1 < 24) → findI l k = none := by
   intro l
   induction l with
   | nil => intro; rfl
   | cons x l ih =>
    intro hx
    have h1 := hx x (by simp)
    have h2 := ih fun y hy => hx y (by simp [hy])
    obtain ⟨a, u⟩ := x
    rw [findI, if_neg, h2]
    rintro rfl; exact h h1
  rw [this _ (by decide), shapeOf]
  split
  ·rfl
  ·repeat rw [if_neg (by omega)]
def takesOf (k : Int) : Int :=
 if k < 4 then 0 else if k < 6 then 1 else if k < 19 then 2 else if k = 19 then 3 else if k = 20 then 2 else if k < 24 then 1 else 0
theorem jix (k : Int) (gh : List GObj) : callL pg 63 [I k] gh = some (I (takesOf k), gh) := by
 have hk : callL pg 63 [I k] gh = some (I (let n := (shapeOf k).getD 0; if n = 0 then 0 else if n = 1 ∨ n = 6 ∨ n = 7 then 1 else if n = 4 then 3 else 2), gh) := by
  have hf := jp4 k
  cases hs : shapeOf k with
  | none =>
   rw [hs] at hf
   refine ji3 (fn := qh) (s := ?s0) rfl rfl (q1o_ ?h0) ?r0
   case h0 => simp [q1o, jj1, hf]; rfl
   case r0 => simp [finish, results, qh, resOfs, resOf, resOk]
  | some n =>
   rw [hs] at hf
   by_cases h0 : n = 0
   ·refine ji3 (fn := qh) (s := ?s1) rfl rfl (q1o_ ?h1) ?r1
    case h1 => simp [q1o, jj1, hf, h0]; rfl
    case r1 => simp [finish, results, qh, resOfs, resOf, resOk, h0]
   by_cases h1 : n = 1 ∨ n = 6 ∨ n = 7
   ·refine ji3 (fn := qh) (s := ⟨[(2, I 1)], [], gh ++ [.map (mapI shapesZ)]⟩) rfl rfl (q1o_ ?h2) ?r2
    case h2 =>
     have := qds_ (pg := pg) (gh := gh ++ [.map (mapI shapesZ)]) (x5 := n) (b8 := true) (e := .ret) (s := ⟨[(2, I 1)], [], gh ++ [.map (mapI shapesZ)]⟩) rfl
     rcases h1 with rfl | rfl | rfl <;> simp [q1o, jj1, hf, this]
    case r2 => simp [finish, results, qh, resOfs, resOf, resOk, h0, h1]
   ·by_cases h4 : n = 4
    ·refine ji3 (fn := qh) (s := ⟨[(2, I 3)], [], gh ++ [.map (mapI shapesZ)]⟩) rfl rfl (q1o_ ?h3) ?r3
     case h3 =>
      subst h4
      have := qds_ (pg := pg) (gh := gh ++ [.map (mapI shapesZ)]) (x5 := 4) (b8 := false) (e := .ret) (s := ⟨[(2, I 3)], [], gh ++ [.map (mapI shapesZ)]⟩) rfl
      simp [q1o, jj1, hf, this]
     case r3 => simp [finish, results, qh, resOfs, resOf, resOk, h0, h4]
    ·simp only [not_or] at h1
     refine ji3 (fn := qh) (s := ⟨[(2, I 2)], [], gh ++ [.map (mapI shapesZ)]⟩) rfl rfl (q1o_ ?h5) ?r5
     case h5 =>
      have := qds_ (pg := pg) (gh := gh ++ [.map (mapI shapesZ)]) (x5 := n) (b8 := false) (e := .normal) (s := ⟨[(12, B false)], [], gh ++ [.map (mapI shapesZ)]⟩) (by simp [qds, h4])
      have h2 := qgp_ (pg := pg) (gh := gh ++ [.map (mapI shapesZ)]) (b12 := false) (e := .ret) (s := ⟨[(2, I 2)], [], gh ++ [.map (mapI shapesZ)]⟩) rfl
      simp [q1o, jj1, hf, h0, h1, this, h2]
     case r5 => simp [finish, results, qh, resOfs, resOf, resOk, h0, h1, h4]
 rw [hk]
 congr 3
 simp only [shapeOf, takesOf]
 repeat' split
 all_goals first | rfl | omega | simp_all
theorem jj8 (w : Int) (gh : List GObj) : callL pg 62 [I w] gh = some (B (decide (1 ≤ w ∧ w ≤ 8)), gh) := by
 by_cases h : 1 ≤ w
 ·refine ji3 (fn := q2t) (s := ?s1) rfl rfl (q8d_ ?h1) ?r1
  case h1 => simp [q8d, h]; rfl
  case r1 => simp [finish, results, q2t, resOfs, resOf, resOk, h]
 ·refine ji3 (fn := q2t) (s := ?s2) rfl rfl (q8d_ ?h2) ?r2
  case h2 => simp [q8d, h]; rfl
  case r2 => simp [finish, results, q2t, resOfs, resOf, resOk, h]
def fitsOf (s width n w0 w1 w2 : Int) : Bool :=
 if n ≠ 0 ∧ s ≠ 6 then false
 else if s = 1 then w0 = width
 else if s = 2 then w0 = width ∧ w1 = width
 else if s = 3 then w0 = w1 ∧ width = 1
 else if s = 4 then w0 = 1 ∧ w1 = width ∧ w2 = width
 else if s = 5 then IntKind.i64.wrap (w0 + w1) = width
 else if s = 6 then 0 ≤ n ∧ n ≤ IntKind.i64.wrap (w0 - width)
 else w0 ≤ width
theorem jp5 (s width n w0 w1 w2 : Int) (gh : List GObj) : callL pg 64 [I s, I width, I n, .agg [I w0, I w1, I w2]] gh = some (B (fitsOf s width n w0 w1 w2), gh) := by
 have h : qi pg s width n w0 w1 w2 gh = some (.ret, ⟨[(8, B (fitsOf s width n w0 w1 w2))], [], gh⟩) := by
  by_cases hn : n = 0
  ·by_cases h1 : s = 1
   ·simp [qi, fitsOf, hn, h1]
   by_cases h2 : s = 2
   ·by_cases h : w0 = width <;> simp [qi, fitsOf, hn, h2, h]
   by_cases h3 : s = 3
   ·by_cases h : w0 = w1 <;> simp [qi, fitsOf, hn, h3, h]
   by_cases h4 : s = 4
   ·by_cases h : w0 = 1 <;> by_cases h' : w1 = width <;> simp [qi, fitsOf, hn, h4, h, h']
   by_cases h5 : s = 5
   ·simp [qi, fitsOf, hn, h5]
   by_cases h6 : s = 6
   ·simp [qi, fitsOf, hn, h6]
   simp [qi, fitsOf, hn, h1, h2, h3, h4, h5, h6]
  ·by_cases h6 : s = 6
   ·by_cases h : 0 ≤ n <;> simp [qi, fitsOf, hn, h6, h]
   ·simp [qi, fitsOf, hn, h6]
 refine ji3 (fn := q84) rfl rfl (qi_ h) ?r
 simp [finish, results, q84, resOfs, resOf, resOk]
def wOk (k i w : Int) : Prop := if i < takesOf k then 1 ≤ w ∧ w ≤ 8 else w = 0
instance (k i w : Int) : Decidable (wOk k i w) := inferInstanceAs (Decidable (if i < takesOf k then 1 ≤ w ∧ w ≤ 8 else w = 0))
theorem Fit_b1 (k width n s w0 w1 w2 i w : Int) (gh : List GObj) (hi : (i = 0 ∧ w = w0) ∨ (i = 1 ∧ w = w1) ∨ (i = 2 ∧ w = w2)) :
  qy pg k width n s w0 w1 w2 i w0 w1 w2 gh = if wOk k i w then some (.normal, ⟨[(0, I k), (1, I width), (2, I n), (7, .ptr false 0 0), (9, I s), (24, .agg [I w0, I w1, I w2]), (25, I (i + 1))], [[I w0, I w1, I w2]], gh⟩)
   else some (.ret, ⟨[(8, I 3)], [], gh⟩) := by
 have hw : (IntKind.i64.wrap (i + 1)) = i + 1 := ji5 (by omega) (by omega)
 by_cases hk : i < takesOf k
 ·have hk' := Int.not_le.2 hk
  by_cases h1 : 1 ≤ w
  ·by_cases h2 : w ≤ 8
   ·rcases hi with ⟨rfl, rfl⟩ | ⟨rfl, rfl⟩ | ⟨rfl, rfl⟩ <;> simp [qy, jix, jj8, hk, hk', wOk, h1, h2] <;> exact hw
   ·rcases hi with ⟨rfl, rfl⟩ | ⟨rfl, rfl⟩ | ⟨rfl, rfl⟩ <;> simp [qy, jix, jj8, hk, wOk, h1, h2]
  ·rcases hi with ⟨rfl, rfl⟩ | ⟨rfl, rfl⟩ | ⟨rfl, rfl⟩ <;> simp [qy, jix, jj8, hk, wOk, h1]
 ·have hk' := Int.not_lt.1 hk
  by_cases h2 : w = 0
  ·rcases hi with ⟨rfl, rfl⟩ | ⟨rfl, rfl⟩ | ⟨rfl, rfl⟩ <;> simp [qy, jix, hk, hk', wOk, h2] <;> exact hw
  ·rcases hi with ⟨rfl, rfl⟩ | ⟨rfl, rfl⟩ | ⟨rfl, rfl⟩ <;> simp [qy, jix, hk, hk', wOk, h2]
theorem jva (k width n s w0 w1 w2 : Int) (gh : List GObj) :
  runL pg q81 ⟨[(0, I k), (1, I width), (2, I n), (7, .ptr false 0 0), (9, I s), (24, .agg [I w0, I w1, I w2]), (25, I 0)], [[I w0, I w1, I w2]], gh⟩ =
   if wOk k 0 w0 ∧ wOk k 1 w1 ∧ wOk k 2 w2 then some (.normal, ⟨[(1, I width), (2, I n), (7, .ptr false 0 0), (9, I s)], [[I w0, I w1, I w2]], gh⟩) else some (.ret, ⟨[(8, I 3)], [], gh⟩) := by
 have b0 := Fit_b1 k width n s w0 w1 w2 0 w0 gh (by simp)
 have b1 := Fit_b1 k width n s w0 w1 w2 1 w1 gh (by simp)
 have b2 := Fit_b1 k width n s w0 w1 w2 2 w2 gh (by simp)
 by_cases h0 : wOk k 0 w0
 ·rw [if_pos h0] at b0
  refine ji4 (qy_ b0) ?_
  by_cases h1 : wOk k 1 w1
  ·rw [if_pos h1] at b1
   refine ji4 (qy_ b1) ?_
   by_cases h2 : wOk k 2 w2
   ·rw [if_pos h2] at b2
    refine ji4 (qy_ b2) ?_
    rw [if_pos ⟨h0, h1, h2⟩]
    refine (ji7 (s1 := ?s1) (qy_ ?h1)).trans ?r1
    case h1 => simp [qy]; rfl
    case r1 => simp [keep]
   ·rw [if_neg h2] at b2
    rw [if_neg (fun h => h2 h.2.2)]
    exact lp_ret (qy_ b2)
  ·rw [if_neg h1] at b1
   rw [if_neg (fun h => h1 h.2.1)]
   exact lp_ret (qy_ b1)
 ·rw [if_neg h0] at b0
  rw [if_neg (fun h => h0 h.1)]
  exact lp_ret (qy_ b0)
def fitE (k width n w0 w1 w2 : Int) : Int :=
 match shapeOf k with
 | none => 7
 | some s => if ¬ (1 ≤ width ∧ width ≤ 8) then 3 else if ¬ (wOk k 0 w0 ∧ wOk k 1 w1 ∧ wOk k 2 w2) then 3 else if fitsOf s width n w0 w1 w2 then 0 else 1
theorem Fit_eq (k width n w0 w1 w2 : Int) (gh : List GObj) : callL pg 22 [I k, I width, I n, .agg [I w0, I w1, I w2]] gh = some (I (fitE k width n w0 w1 w2), gh) := by
 have hf := jp4 k
 simp only [fitE]
 cases hs : shapeOf k with
 | none =>
  rw [hs] at hf
  refine ji3 (fn := qg) (s := ?s0) rfl rfl (q1n_ ?h0) ?r0
  case h0 => simp [q1n, jj1, hf]; rfl
  case r0 => simp [finish, results, qg, resOfs, resOf, resOk]
 | some s =>
  rw [hs] at hf
  by_cases hw : 1 ≤ width ∧ width ≤ 8
  ·have hl := jva k width n s w0 w1 w2 (gh ++ [.map (mapI shapesZ)])
   simp only [hw, not_true, if_false, and_self]
   by_cases ho : wOk k 0 w0 ∧ wOk k 1 w1 ∧ wOk k 2 w2
   ·rw [if_pos ho] at hl
    simp only [ho, not_true, if_false, and_self]
    have hk : ∀ e s1, q4c pg width n s w0 w1 w2 (gh ++ [.map (mapI shapesZ)]) = some (e, s1) → _ := fun e s1 h => q4c_ h
    by_cases hb : fitsOf s width n w0 w1 w2
    ·have := hk .ret ⟨[(8, I 0)], [], gh ++ [.map (mapI shapesZ)]⟩ (by simp [q4c, jp5, hb])
     refine ji3 (fn := qg) (s := ?s1) rfl rfl (q1n_ ?h1) ?r1
     case h1 => simp [q1n, jj1, hf, jj8, hw, hl, this]; rfl
     case r1 => simp [finish, results, qg, resOfs, resOf, resOk, hb]
    ·have := hk .ret ⟨[(8, I 1)], [], gh ++ [.map (mapI shapesZ)]⟩ (by simp [q4c, jp5, hb])
     refine ji3 (fn := qg) (s := ?s2) rfl rfl (q1n_ ?h2) ?r2
     case h2 => simp [q1n, jj1, hf, jj8, hw, hl, this]; rfl
     case r2 => simp [finish, results, qg, resOfs, resOf, resOk, hb]
   ·rw [if_neg ho] at hl
    refine ji3 (fn := qg) (s := ?s3) rfl rfl (q1n_ ?h3) ?r3
    case h3 => simp [q1n, jj1, hf, jj8, hw, hl]; rfl
    case r3 => simp [finish, results, qg, resOfs, resOf, resOk, ho]
  ·refine ji3 (fn := qg) (s := ?s4) rfl rfl (q1n_ ?h4) ?r4
   case h4 => simp [q1n, jj1, hf, jj8, hw]; rfl
   case r4 => simp [finish, results, qg, resOfs, resOf, resOk, hw]
end Go.Lw
end

/-! What Apply of package word comes to. -/
section
namespace Go.Lw
open Go
theorem yes_eq (b : Bool) (gh : List GObj) : callL pg 114 [B b] gh = some (I (if b then 1 else 0), gh) := by
 cases b
 ·refine ji3 (fn := q2x) (s := ?s1) rfl rfl (q8e_ ?h1) ?r1
  case h1 => simp [q8e]; rfl
  case r1 => simp [finish, results, q2x, resOfs, resOf, resOk]
 ·refine ji3 (fn := q2x) (s := ?s2) rfl rfl (q8e_ ?h2) ?r2
  case h2 => simp [q8e]; rfl
  case r2 => simp [finish, results, q2x, resOfs, resOf, resOk]
def sgnOf (n w : Int) : Int := if iShl .i64 1 (w - 1) ≤ n then IntKind.i64.wrap (n - iShl .i64 1 w) else n
theorem jm7 (n w : Int) (hw : 1 ≤ w ∧ w ≤ 8) (gh : List GObj) : callL pg 115 [I n, I w] gh = some (I (sgnOf n w), gh) := by
 have e : IntKind.i64.wrap (w - 1) = w - 1 := ji5 (by omega) (by omega)
 have h2 : 0 ≤ w := by omega
 by_cases h : iShl .i64 1 (w - 1) ≤ n
 ·refine ji3 (fn := q2y) (s := ?s1) rfl rfl (q8f_ ?h1) ?r1
  case h1 => simp [q8f, e, hw.1, h2, h]; rfl
  case r1 => simp [finish, results, q2y, resOfs, resOf, resOk, sgnOf, h]
 ·refine ji3 (fn := q2y) (s := ?s2) rfl rfl (q8f_ ?h2) ?r2
  case h2 => simp [q8f, e, hw.1, h]; rfl
  case r2 => simp [finish, results, q2y, resOfs, resOf, resOk, sgnOf, h]
theorem jp6 (n w : Int) (hw : 0 ≤ w) (gh : List GObj) : callL pg 65 [I n, I w] gh = some (B (decide (0 ≤ n ∧ n < iShl .i64 1 w)), gh) := by
 by_cases h : 0 ≤ n
 ·refine ji3 (fn := q2w) (s := ?s1) rfl rfl (q8g_ ?h1) ?r1
  case h1 => simp [q8g, hw, h]; rfl
  case r1 => simp [finish, results, q2w, resOfs, resOf, resOk, h]
 ·refine ji3 (fn := q2w) (s := ?s2) rfl rfl (q8g_ ?h2) ?r2
  case h2 => simp [q8g, h]; rfl
  case r2 => simp [finish, results, q2w, resOfs, resOf, resOk, h]
def doOf (k a b c n w0 w1 : Int) : Int :=
 if k = 4 then iNot .i64 a else if k = 5 then IntKind.i64.wrap (0 - a) else if k = 6 then iAnd .i64 a b else if k = 7 then iOr .i64 a b else if k = 8 then iXor .i64 a b
 else if k = 9 then IntKind.i64.wrap (a + b) else if k = 10 then IntKind.i64.wrap (a - b) else if k = 11 then IntKind.i64.wrap (a * b) else if k = 14 then iShl .i64 a b else if k = 15 then iShr .i64 a b
 else if k = 16 then (if a = b then 1 else 0) else if k = 17 then (if a < b then 1 else 0) else if k = 18 then (if sgnOf a w0 < sgnOf b w1 then 1 else 0)
 else if k = 20 then iOr .i64 (iShl .i64 a w1) b else if k = 21 then iShr .i64 a n else if k = 23 then sgnOf a w0 else if k = 19 then (if a = 1 then b else c)
 else if k = 12 then (if b = 0 then -1 else IntKind.i64.wrap (Int.tdiv a b)) else if k = 13 then (if b = 0 then a else Int.tmod a b) else a
theorem do_D4 (width a b c n w0 w1 w2 : Int) (gh : List GObj) : q4 pg 4 width a b c n w0 w1 w2 gh = some (.ret, ⟨[(14, I (doOf 4 a b c n w0 w1))], [], gh⟩) := rfl
theorem do_D5 (width a b c n w0 w1 w2 : Int) (gh : List GObj) : q4 pg 5 width a b c n w0 w1 w2 gh = some (.ret, ⟨[(14, I (doOf 5 a b c n w0 w1))], [], gh⟩) := rfl
theorem do_D6 (width a b c n w0 w1 w2 : Int) (gh : List GObj) : q4 pg 6 width a b c n w0 w1 w2 gh = some (.ret, ⟨[(14, I (doOf 6 a b c n w0 w1))], [], gh⟩) := rfl
theorem do_D7 (width a b c n w0 w1 w2 : Int) (gh : List GObj) : q4 pg 7 width a b c n w0 w1 w2 gh = some (.ret, ⟨[(14, I (doOf 7 a b c n w0 w1))], [], gh⟩) := rfl
theorem do_D8 (width a b c n w0 w1 w2 : Int) (gh : List GObj) : q4 pg 8 width a b c n w0 w1 w2 gh = some (.ret, ⟨[(14, I (doOf 8 a b c n w0 w1))], [], gh⟩) := rfl
theorem do_D9 (width a b c n w0 w1 w2 : Int) (gh : List GObj) : q4 pg 9 width a b c n w0 w1 w2 gh = some (.ret, ⟨[(14, I (doOf 9 a b c n w0 w1))], [], gh⟩) := rfl
theorem do_D10 (width a b c n w0 w1 w2 : Int) (gh : List GObj) : q4 pg 10 width a b c n w0 w1 w2 gh = some (.ret, ⟨[(14, I (doOf 10 a b c n w0 w1))], [], gh⟩) := rfl
theorem do_D11 (width a b c n w0 w1 w2 : Int) (gh : List GObj) : q4 pg 11 width a b c n w0 w1 w2 gh = some (.ret, ⟨[(14, I (doOf 11 a b c n w0 w1))], [], gh⟩) := rfl
theorem do_D12 (width a b c n w0 w1 w2 : Int) (gh : List GObj) : q4 pg 12 width a b c n w0 w1 w2 gh = some (.ret, ⟨[(14, I (doOf 12 a b c n w0 w1))], [], gh⟩) := by
 have e1 : q4 pg 12 width a b c n w0 w1 w2 gh = br 116 (b == 0) (some (.ret, ⟨[(14, I (-1))], [], gh⟩)) (gd (decide (b ≠ 0)) (some (.ret, ⟨[(14, I (IntKind.i64.wrap (Int.tdiv a b)))], [], gh⟩))) := rfl
 have e2 : doOf 12 a b c n w0 w1 = if b = 0 then -1 else IntKind.i64.wrap (Int.tdiv a b) := rfl
 rw [e1, e2]
 by_cases h : b = 0 <;> simp [h]
theorem do_D13 (width a b c n w0 w1 w2 : Int) (gh : List GObj) : q4 pg 13 width a b c n w0 w1 w2 gh = some (.ret, ⟨[(14, I (doOf 13 a b c n w0 w1))], [], gh⟩) := by
 have e1 : q4 pg 13 width a b c n w0 w1 w2 gh = br 123 (b == 0) (some (.ret, ⟨[(14, I (a))], [], gh⟩)) (gd (decide (b ≠ 0)) (some (.ret, ⟨[(14, I (Int.tmod a b))], [], gh⟩))) := rfl
 have e2 : doOf 13 a b c n w0 w1 = if b = 0 then a else Int.tmod a b := rfl
 rw [e1, e2]
 by_cases h : b = 0 <;> simp [h]
theorem do_D14 (width a b c n w0 w1 w2 : Int) (gh : List GObj) (hb : 0 ≤ b) : q4 pg 14 width a b c n w0 w1 w2 gh = some (.ret, ⟨[(14, I (doOf 14 a b c n w0 w1))], [], gh⟩) := by
 have e1 : q4 pg 14 width a b c n w0 w1 w2 gh = gd (decide ((0 : Int) ≤ b)) (some (.ret, ⟨[(14, I (iShl .i64 a b))], [], gh⟩)) := rfl
 have e2 : doOf 14 a b c n w0 w1 = iShl .i64 a b := rfl
 rw [e1, e2]
 simp [hb]
theorem do_D15 (width a b c n w0 w1 w2 : Int) (gh : List GObj) (hb : 0 ≤ b) : q4 pg 15 width a b c n w0 w1 w2 gh = some (.ret, ⟨[(14, I (doOf 15 a b c n w0 w1))], [], gh⟩) := by
 have e1 : q4 pg 15 width a b c n w0 w1 w2 gh = gd (decide ((0 : Int) ≤ b)) (some (.ret, ⟨[(14, I (iShr .i64 a b))], [], gh⟩)) := rfl
 have e2 : doOf 15 a b c n w0 w1 = iShr .i64 a b := rfl
 rw [e1, e2]
 simp [hb]
theorem do_D16 (width a b c n w0 w1 w2 : Int) (gh : List GObj) : q4 pg 16 width a b c n w0 w1 w2 gh = some (.ret, ⟨[(14, I (doOf 16 a b c n w0 w1))], [], gh⟩) := by
 have e1 : q4 pg 16 width a b c n w0 w1 w2 gh = callR gh true (callL pg 114 [B (a == b)] gh) fun r1 gh2 => unI .i64 r1 fun n3 => some (.ret, ⟨[(14, I n3)], [], gh2⟩) := rfl
 have e2 : doOf 16 a b c n w0 w1 = if a = b then 1 else 0 := rfl
 rw [e1, e2]
 simp [yes_eq]
theorem do_D17 (width a b c n w0 w1 w2 : Int) (gh : List GObj) : q4 pg 17 width a b c n w0 w1 w2 gh = some (.ret, ⟨[(14, I (doOf 17 a b c n w0 w1))], [], gh⟩) := by
 have e1 : q4 pg 17 width a b c n w0 w1 w2 gh = callR gh true (callL pg 114 [B (decide (a < b))] gh) fun r1 gh2 => unI .i64 r1 fun n3 => some (.ret, ⟨[(14, I n3)], [], gh2⟩) := rfl
 have e2 : doOf 17 a b c n w0 w1 = if a < b then 1 else 0 := rfl
 rw [e1, e2]
 simp [yes_eq]
theorem do_D18 (width a b c n w0 w1 w2 : Int) (gh : List GObj) (h0 : 1 ≤ w0 ∧ w0 ≤ 8) (h1 : 1 ≤ w1 ∧ w1 ≤ 8) : q4 pg 18 width a b c n w0 w1 w2 gh = some (.ret, ⟨[(14, I (doOf 18 a b c n w0 w1))], [], gh⟩) := by
 have e1 : q4 pg 18 width a b c n w0 w1 w2 gh = callR gh true (callL pg 115 [I a, I w0] gh) fun r7 gh8 => unI .i64 r7 fun n9 => callR gh8 true (callL pg 115 [I b, I w1] gh8) fun r10 gh11 => unI .i64 r10 fun n12 => callR gh11 true (callL pg 114 [B (decide (n9 < n12))] gh11) fun r13 gh14 => unI .i64 r13 fun n15 => some (.ret, ⟨[(14, I n15)], [], gh14⟩) := rfl
 have e2 : doOf 18 a b c n w0 w1 = if sgnOf a w0 < sgnOf b w1 then 1 else 0 := rfl
 rw [e1, e2]
 simp [yes_eq, jm7 a w0 h0, jm7 b w1 h1]
theorem do_D19 (width a b c n w0 w1 w2 : Int) (gh : List GObj) : q4 pg 19 width a b c n w0 w1 w2 gh = some (.ret, ⟨[(14, I (doOf 19 a b c n w0 w1))], [], gh⟩) := by
 have e1 : q4 pg 19 width a b c n w0 w1 w2 gh = br 110 (a == 1) (some (.ret, ⟨[(14, I (b))], [], gh⟩)) (some (.ret, ⟨[(14, I (c))], [], gh⟩)) := rfl
 have e2 : doOf 19 a b c n w0 w1 = if a = 1 then b else c := rfl
 rw [e1, e2]
 by_cases h : a = 1 <;> simp [h]
theorem do_D20 (width a b c n w0 w1 w2 : Int) (gh : List GObj) (h1 : 0 ≤ w1) : q4 pg 20 width a b c n w0 w1 w2 gh = some (.ret, ⟨[(14, I (doOf 20 a b c n w0 w1))], [], gh⟩) := by
 have e1 : q4 pg 20 width a b c n w0 w1 w2 gh = gd (decide ((0 : Int) ≤ w1)) (some (.ret, ⟨[(14, I (iOr .i64 (iShl .i64 a w1) b))], [], gh⟩)) := rfl
 have e2 : doOf 20 a b c n w0 w1 = iOr .i64 (iShl .i64 a w1) b := rfl
 rw [e1, e2]
 simp [h1]
theorem do_D21 (width a b c n w0 w1 w2 : Int) (gh : List GObj) (hn : 0 ≤ n) : q4 pg 21 width a b c n w0 w1 w2 gh = some (.ret, ⟨[(14, I (doOf 21 a b c n w0 w1))], [], gh⟩) := by
 have e1 : q4 pg 21 width a b c n w0 w1 w2 gh = gd (decide ((0 : Int) ≤ n)) (some (.ret, ⟨[(14, I (iShr .i64 a n))], [], gh⟩)) := rfl
 have e2 : doOf 21 a b c n w0 w1 = iShr .i64 a n := rfl
 rw [e1, e2]
 simp [hn]
theorem do_D22 (width a b c n w0 w1 w2 : Int) (gh : List GObj) : q4 pg 22 width a b c n w0 w1 w2 gh = some (.ret, ⟨[(14, I (doOf 22 a b c n w0 w1))], [], gh⟩) := rfl
theorem do_D23 (width a b c n w0 w1 w2 : Int) (gh : List GObj) (h0 : 1 ≤ w0 ∧ w0 ≤ 8) : q4 pg 23 width a b c n w0 w1 w2 gh = some (.ret, ⟨[(14, I (doOf 23 a b c n w0 w1))], [], gh⟩) := by
 have e1 : q4 pg 23 width a b c n w0 w1 w2 gh = callR gh true (callL pg 115 [I a, I w0] gh) fun r1 gh2 => unI .i64 r1 fun n3 => some (.ret, ⟨[(14, I n3)], [], gh2⟩) := rfl
 have e2 : doOf 23 a b c n w0 w1 = sgnOf a w0 := rfl
 rw [e1, e2]
 simp [jm7 a w0 h0]
theorem do_eq (k width a b c n w0 w1 w2 : Int) (hk : 4 ≤ k ∧ k < 24) (hb : 0 ≤ b) (hn : k = 21 → 0 ≤ n) (h0 : 1 ≤ w0 ∧ w0 ≤ 8) (h1 : k = 18 ∨ k = 20 → 1 ≤ w1 ∧ w1 ≤ 8) (gh : List GObj) :
  callL pg 96 [I k, I width, I a, I b, I c, I n, .agg [I w0, I w1, I w2]] gh = some (I (doOf k a b c n w0 w1), gh) := by
 have hd : q4 pg k width a b c n w0 w1 w2 gh = some (.ret, ⟨[(14, I (doOf k a b c n w0 w1))], [], gh⟩) := by
  have : k = 4 ∨ k = 5 ∨ k = 6 ∨ k = 7 ∨ k = 8 ∨ k = 9 ∨ k = 10 ∨ k = 11 ∨ k = 12 ∨ k = 13 ∨ k = 14 ∨ k = 15 ∨ k = 16 ∨ k = 17 ∨ k = 18 ∨ k = 19 ∨ k = 20 ∨ k = 21 ∨ k = 22 ∨ k = 23 := by omega
  rcases this with rfl | rfl | rfl | rfl | rfl | rfl | rfl | rfl | rfl | rfl | rfl | rfl | rfl | rfl | rfl | rfl | rfl | rfl | rfl | rfl
  ·exact do_D4 width a b c n w0 w1 w2 gh
  ·exact do_D5 width a b c n w0 w1 w2 gh
  ·exact do_D6 width a b c n w0 w1 w2 gh
  ·exact do_D7 width a b c n w0 w1 w2 gh
  ·exact do_D8 width a b c n w0 w1 w2 gh
  ·exact do_D9 width a b c n w0 w1 w2 gh
  ·exact do_D10 width a b c n w0 w1 w2 gh
  ·exact do_D11 width a b c n w0 w1 w2 gh
  ·exact do_D12 width a b c n w0 w1 w2 gh
  ·exact do_D13 width a b c n w0 w1 w2 gh
  ·exact do_D14 width a b c n w0 w1 w2 gh hb
  ·exact do_D15 width a b c n w0 w1 w2 gh hb
  ·exact do_D16 width a b c n w0 w1 w2 gh
  ·exact do_D17 width a b c n w0 w1 w2 gh
  ·exact do_D18 width a b c n w0 w1 w2 gh h0 (h1 (.inl rfl))
  ·exact do_D19 width a b c n w0 w1 w2 gh
  ·exact do_D20 width a b c n w0 w1 w2 gh (by have := h1 (.inr rfl); omega)
  ·exact do_D21 width a b c n w0 w1 w2 gh (hn rfl)
  ·exact do_D22 width a b c n w0 w1 w2 gh
  ·exact do_D23 width a b c n w0 w1 w2 gh h0
 refine ji3 (fn := q86) rfl rfl (q4_ hd) ?r1
 simp [finish, results, q86, resOfs, resOf, resOk]
def rawOf (k width a b c n w0 w1 : Int) : Int := iAnd .i64 (doOf k a b c n w0 w1) (IntKind.i64.wrap (iShl .i64 1 width - 1))
theorem Raw_eq (k width a b c n w0 w1 w2 : Int) (hk : 4 ≤ k ∧ k < 24) (hb : 0 ≤ b) (hn : k = 21 → 0 ≤ n) (h0 : 1 ≤ w0 ∧ w0 ≤ 8) (h1 : k = 18 ∨ k = 20 → 1 ≤ w1 ∧ w1 ≤ 8) (hw : 0 ≤ width) (gh : List GObj) :
  callL pg 66 [I k, I width, I a, I b, I c, I n, .agg [I w0, I w1, I w2]] gh = some (I (rawOf k width a b c n w0 w1), gh) := by
 refine ji3 (fn := q85) (s := ?s1) rfl rfl (qdu_ ?h1) ?r1
 case h1 => simp [qdu, do_eq k width a b c n w0 w1 w2 hk hb hn h0 h1, hw]; rfl
 case r1 => simp [finish, results, q85, resOfs, resOf, resOk, rawOf]
def inOk (k i x w : Int) : Prop := if i < takesOf k then 0 ≤ x ∧ x < iShl .i64 1 w else x = 0
instance (k i x w : Int) : Decidable (inOk k i x w) := inferInstanceAs (Decidable (if i < takesOf k then 0 ≤ x ∧ x < iShl .i64 1 w else x = 0))
theorem jkc {k width n w0 w1 w2 : Int} (h : fitE k width n w0 w1 w2 = 0) : (4 ≤ k ∧ k < 24) ∧ (1 ≤ width ∧ width ≤ 8) ∧ wOk k 0 w0 ∧ wOk k 1 w1 ∧ wOk k 2 w2 ∧ ∃ s, shapeOf k = some s ∧ fitsOf s width n w0 w1 w2 = true := by
 unfold fitE at h
 cases hs : shapeOf k with
 | none => rw [hs] at h; cases h
 | some s =>
  rw [hs] at h
  simp only at h
  by_cases h1 : 1 ≤ width ∧ width ≤ 8
  ·by_cases h2 : wOk k 0 w0 ∧ wOk k 1 w1 ∧ wOk k 2 w2
   ·simp only [h1, h2, and_self, not_true, if_false] at h
    refine ⟨?_, h1, h2.1, h2.2.1, h2.2.2, s, rfl, ?_⟩
    ·simp only [shapeOf] at hs
     repeat' split at hs
     all_goals first | (exfalso; cases hs; done) | omega
    ·cases hf : fitsOf s width n w0 w1 w2 with
     | true => rfl
     | false => rw [hf] at h; cases h
   ·simp only [h1, and_self, not_true, if_false, h2, not_false_iff, if_true] at h; cases h
  ·simp only [h1, not_false_iff, if_true] at h; cases h
theorem jky {k : Int} (h : 4 ≤ k ∧ k < 24) : 0 < takesOf k := by
 simp only [takesOf]
 repeat' split
 all_goals omega
end Go.Lw
end

/-! What the document's functions of words come to. -/
section
namespace Go.Lw
open Go
theorem jio (n a b : Int) (gh : List GObj) : callL pg 50 [I n, I a, I b] gh = some (B (decide (a ≤ n ∧ n ≤ b)), gh) := by
 by_cases h : a ≤ n
 ·refine ji3 (fn := q2g) (s := ?s1) rfl rfl (q8j_ ?h1) ?r1
  case h1 => simp [q8j, h]; rfl
  case r1 => simp [finish, results, q2g, resOfs, resOf, resOk, h]
 ·refine ji3 (fn := q2g) (s := ?s2) rfl rfl (q8j_ ?h2) ?r2
  case h2 => simp [q8j, h]; rfl
  case r2 => simp [finish, results, q2g, resOfs, resOf, resOk, h]
theorem jiv (k : Int) (gh : List GObj) : callL pg 26 [I k] gh = some (I (takesOf k), gh) := by
 by_cases h1 : k = 4 ∨ k = 5 ∨ k = 21 ∨ k = 22 ∨ k = 23
 ·refine ji3 (fn := qq) (s := ⟨[(2, I 1)], [], gh⟩) rfl rfl (q30_ ?h1) ?r1
  case h1 =>
   have := qdv_ (pg := pg) (gh := gh) (x0 := k) (x3 := k) (b4 := true) (e := .ret) (s := ⟨[(2, I 1)], [], gh⟩) rfl
   rcases h1 with rfl | rfl | rfl | rfl | rfl <;> simp [q30, this]
  case r1 =>
   rcases h1 with rfl | rfl | rfl | rfl | rfl <;> simp [finish, results, qq, resOfs, resOf, resOk] <;> rfl
 simp only [not_or] at h1
 by_cases h2 : k = 19
 ·refine ji3 (fn := qq) (s := ⟨[(2, I 3)], [], gh⟩) rfl rfl (q30_ ?h2) ?r2
  case h2 =>
   subst h2
   have := qdv_ (pg := pg) (gh := gh) (x0 := 19) (x3 := 19) (b4 := false) (e := .ret) (s := ⟨[(2, I 3)], [], gh⟩) rfl
   simp [q30, this]
  case r2 => subst h2; simp [finish, results, qq, resOfs, resOf, resOk]; rfl
 have hk1 := qdv_ (pg := pg) (gh := gh) (x0 := k) (x3 := k) (b4 := false) (e := .normal) (s := ⟨[(0, I k), (10, B false)], [], gh⟩) (by simp [qdv, h2])
 by_cases h3 : 6 ≤ k ∧ k ≤ 20
 ·refine ji3 (fn := qq) (s := ⟨[(2, I 2)], [], gh⟩) rfl rfl (q30_ ?h3) ?r3
  case h3 =>
   have hk2 := q8i_ (pg := pg) (gh := gh) (x0 := k) (b10 := false) (e := .ret) (s := ⟨[(2, I 2)], [], gh⟩) (by simp [q8i, jio, h3])
   simp [q30, h1, hk1, hk2]
  case r3 =>
   have : takesOf k = 2 := by simp only [takesOf]; repeat' split <;> first | omega | rfl
   simp [finish, results, qq, resOfs, resOf, resOk, this]
 ·refine ji3 (fn := qq) (s := ⟨[(2, I 0)], [], gh⟩) rfl rfl (q30_ ?h4) ?r4
  case h4 =>
   have hk2 := q8i_ (pg := pg) (gh := gh) (x0 := k) (b10 := false) (e := .ret) (s := ⟨[(2, I 0)], [], gh⟩) (by simp [q8i, jio, h3])
   simp [q30, h1, hk1, hk2]
  case r4 =>
   have : takesOf k = 0 := by simp only [takesOf]; repeat' split <;> first | omega | rfl
   simp [finish, results, qq, resOfs, resOf, resOk, this]
theorem jm8 (k width n w0 w1 w2 i w : Int) (gh : List GObj) (hi : (i = 0 ∧ w = w0) ∨ (i = 1 ∧ w = w1) ∨ (i = 2 ∧ w = w2)) :
  qz pg k width n (takesOf k) i w0 w1 w2 gh = if wOk k i w then some (.normal, ⟨[(0, I k), (1, I width), (2, I n), (7, .ptr false 0 0), (9, I (takesOf k)), (10, I (i + 1))], [[I w0, I w1, I w2]], gh⟩)
   else some (.ret, ⟨[(8, I 3)], [], gh⟩) := by
 have hw : (IntKind.i64.wrap (i + 1)) = i + 1 := ji5 (by omega) (by omega)
 by_cases hk : i < takesOf k
 ·have hk' := Int.not_le.2 hk
  by_cases h1 : 1 ≤ w
  ·by_cases h2 : w ≤ 8
   ·rcases hi with ⟨rfl, rfl⟩ | ⟨rfl, rfl⟩ | ⟨rfl, rfl⟩ <;> simp [qz, jio, hk, hk', wOk, h1, h2] <;> exact hw
   ·rcases hi with ⟨rfl, rfl⟩ | ⟨rfl, rfl⟩ | ⟨rfl, rfl⟩ <;> simp [qz, jio, hk, wOk, h1, h2]
  ·rcases hi with ⟨rfl, rfl⟩ | ⟨rfl, rfl⟩ | ⟨rfl, rfl⟩ <;> simp [qz, jio, hk, wOk, h1]
 ·have hk' := Int.not_lt.1 hk
  by_cases h2 : w = 0
  ·rcases hi with ⟨rfl, rfl⟩ | ⟨rfl, rfl⟩ | ⟨rfl, rfl⟩ <;> simp [qz, hk, hk', wOk, h2] <;> exact hw
  ·rcases hi with ⟨rfl, rfl⟩ | ⟨rfl, rfl⟩ | ⟨rfl, rfl⟩ <;> simp [qz, hk, hk', wOk, h2]
theorem jvb (k width n w0 w1 w2 : Int) (gh : List GObj) :
  runL pg q6o ⟨[(0, I k), (1, I width), (2, I n), (7, .ptr false 0 0), (9, I (takesOf k)), (10, I 0)], [[I w0, I w1, I w2]], gh⟩ =
   if wOk k 0 w0 ∧ wOk k 1 w1 ∧ wOk k 2 w2 then some (.normal, ⟨[(0, I k), (1, I width), (2, I n), (7, .ptr false 0 0)], [[I w0, I w1, I w2]], gh⟩) else some (.ret, ⟨[(8, I 3)], [], gh⟩) := by
 have b0 := jm8 k width n w0 w1 w2 0 w0 gh (by simp)
 have b1 := jm8 k width n w0 w1 w2 1 w1 gh (by simp)
 have b2 := jm8 k width n w0 w1 w2 2 w2 gh (by simp)
 by_cases h0 : wOk k 0 w0
 ·rw [if_pos h0] at b0
  refine ji4 (qz_ b0) ?_
  by_cases h1 : wOk k 1 w1
  ·rw [if_pos h1] at b1
   refine ji4 (qz_ b1) ?_
   by_cases h2 : wOk k 2 w2
   ·rw [if_pos h2] at b2
    refine ji4 (qz_ b2) ?_
    rw [if_pos ⟨h0, h1, h2⟩]
    refine (ji7 (s1 := ?s1) (qz_ ?h1)).trans ?r1
    case h1 => simp [qz]; rfl
    case r1 => simp [keep]
   ·rw [if_neg h2] at b2
    rw [if_neg (fun h => h2 h.2.2)]
    exact lp_ret (qz_ b2)
  ·rw [if_neg h1] at b1
   rw [if_neg (fun h => h1 h.2.1)]
   exact lp_ret (qz_ b1)
 ·rw [if_neg h0] at b0
  rw [if_neg (fun h => h0 h.1)]
  exact lp_ret (qz_ b0)
theorem jiy (k n : Int) (b : Bool) (gh : List GObj) :
  runL pg qa ⟨[(0, I k), (2, I n), (11, B b)], [], gh⟩ = some (.ret, ⟨[(8, I (if b = false ∨ (k ≠ 21 ∧ n ≠ 0) then 1 else 0))], [], gh⟩) := by
 refine q4e_ ?_
 cases b
 ·simp [q4e]
 ·by_cases h1 : k = 21
  ·simp [q4e, h1]
  ·by_cases h2 : n = 0 <;> simp [q4e, h1, h2]
theorem jvc (k width n w0 w1 w2 s : Int) (gh : List GObj) (hs : shapeOf k = some s) (hw : 1 ≤ width ∧ width ≤ 8) (h0 : wOk k 0 w0) (h1 : wOk k 1 w1) :
  runL pg q3u ⟨[(0, I k), (1, I width), (2, I n), (7, .ptr false 0 0)], [[I w0, I w1, I w2]], gh⟩ = some (.ret, ⟨[(8, I (if fitsOf s width n w0 w1 w2 then 0 else 1))], [], gh⟩) := by
 refine qe_ ?_
 by_cases c1 : k = 4
 ·subst c1; cases hs
  simp [qe, jiy, fitsOf]
  by_cases hn : n = 0 <;> by_cases hh : w0 = width <;> simp [hn, hh]
 by_cases c2 : k = 5
 ·subst c2; cases hs
  simp [qe, jiy, fitsOf]
  by_cases hn : n = 0 <;> by_cases hh : w0 = width <;> simp [hn, hh]
 by_cases c3 : 6 ≤ k ∧ k ≤ 15
 ·have : s = 2 := by
   simp only [shapeOf] at hs
   rw [if_neg (by omega), if_neg (by omega), if_pos (by omega)] at hs; cases hs; rfl
  subst this
  have hk : k ≠ 21 := by omega
  by_cases hn : n = 0 <;> by_cases hh : w0 = width <;> by_cases hh2 : w1 = width <;> simp [qe, jiy, jio, fitsOf, c1, c2, c3, hk, hn, hh, hh2]
 by_cases c4 : 16 ≤ k ∧ k ≤ 18
 ·have : s = 3 := by
   simp only [shapeOf] at hs
   rw [if_neg (by omega), if_neg (by omega), if_neg (by omega), if_pos (by omega)] at hs; cases hs; rfl
  subst this
  have hk : k ≠ 21 := by omega
  by_cases hn : n = 0 <;> by_cases hh : w0 = w1 <;> by_cases hh2 : width = 1 <;> simp [qe, jiy, jio, fitsOf, c1, c2, c3, c4, hk, hn, hh, hh2]
 by_cases c5 : k = 19
 ·subst c5; cases hs
  by_cases hn : n = 0 <;> by_cases hh : w0 = 1 <;> by_cases hh2 : w1 = width <;> by_cases hh3 : w2 = width <;> simp [qe, jiy, jio, fitsOf, hn, hh, hh2, hh3]
 by_cases c6 : k = 20
 ·subst c6; cases hs
  by_cases hn : n = 0 <;> by_cases hh : IntKind.i64.wrap (w0 + w1) = width <;> simp [qe, jiy, jio, fitsOf, hn, hh]
 by_cases c7 : k = 21
 ·subst c7; cases hs
  have hw0 : 1 ≤ w0 ∧ w0 ≤ 8 := h0
  have e1 : IntKind.i64.wrap (w0 - width) = w0 - width := ji5 (by omega) (by omega)
  by_cases hn : 0 ≤ n
  ·by_cases hn2 : n ≤ 8
   ·have e2 : IntKind.i64.wrap (n + width) = n + width := ji5 (by omega) (by omega)
    by_cases hh : n + width ≤ w0
    ·simp [qe, jiy, jio, fitsOf, hn, hn2, e1, e2, hh, show n ≤ w0 - width by omega]
    ·simp [qe, jiy, jio, fitsOf, hn, hn2, e1, e2, hh, show ¬ n ≤ w0 - width by omega]
   ·simp [qe, jiy, jio, fitsOf, hn, hn2, e1, show ¬ n ≤ w0 - width by omega]
  ·simp [qe, jiy, jio, fitsOf, hn]
 ·have : s = 7 := by
   simp only [shapeOf] at hs
   repeat' split at hs
   all_goals first | (exfalso; omega) | (cases hs; done) | (cases hs; rfl)
  subst this
  by_cases hn : n = 0 <;> by_cases hh : w0 ≤ width <;> simp [qe, jiy, jio, fitsOf, c1, c2, c3, c4, c5, c6, c7, hn, hh]
theorem jp7 (k : Int) : takesOf k = 0 ↔ shapeOf k = none := by
 simp only [takesOf, shapeOf]
 constructor
 ·intro h; repeat' split
  all_goals first | rfl | (exfalso; revert h; repeat' split) <;> omega
 ·intro h; repeat' split
  all_goals first | rfl | (exfalso; revert h; repeat' split) <;> first | omega | simp
theorem jvd (k width n w0 w1 w2 : Int) (gh : List GObj) : callL pg 23 [I k, I width, I n, .agg [I w0, I w1, I w2]] gh = some (I (fitE k width n w0 w1 w2), gh) := by
 simp only [fitE]
 cases hs : shapeOf k with
 | none =>
  refine ji3 (fn := qp) (s := ?s0) rfl rfl (q2z_ ?h0) ?r0
  case h0 => simp [q2z, jiv, (jp7 k).2 hs]; rfl
  case r0 => simp [finish, results, qp, resOfs, resOf, resOk]
 | some s =>
  have ht : takesOf k ≠ 0 := fun h => by rw [jp7, hs] at h; cases h
  by_cases hw : 1 ≤ width ∧ width ≤ 8
  ·have hl := jvb k width n w0 w1 w2 gh
   simp only [hw, not_true, if_false, and_self]
   by_cases ho : wOk k 0 w0 ∧ wOk k 1 w1 ∧ wOk k 2 w2
   ·rw [if_pos ho] at hl
    have hk := jvc k width n w0 w1 w2 s gh hs hw ho.1 ho.2.1
    simp only [ho, not_true, if_false, and_self]
    refine ji3 (fn := qp) (s := ?s1) rfl rfl (q2z_ ?h1) ?r1
    case h1 => simp [q2z, jiv, ht, jio, hw, hl, hk]; rfl
    case r1 => simp [finish, results, qp, resOfs, resOf, resOk]
   ·rw [if_neg ho] at hl
    refine ji3 (fn := qp) (s := ?s3) rfl rfl (q2z_ ?h3) ?r3
    case h3 => simp [q2z, jiv, ht, jio, hw, hl]; rfl
    case r3 => simp [finish, results, qp, resOfs, resOf, resOk, ho]
  ·refine ji3 (fn := qp) (s := ?s4) rfl rfl (q2z_ ?h4) ?r4
   case h4 => simp [q2z, jiv, ht, jio, hw]; rfl
   case r4 => simp [finish, results, qp, resOfs, resOf, resOk, hw]
end Go.Lw
end

/-! What the document makes of words is what the program makes of them. -/
section
namespace Go.Lw
open Go
theorem jj9 (k : Nat) : ((2 ^ k : Nat) : Int) = 2 ^ k := Int.natCast_pow 2 k
theorem jpa {k : Nat} (hk : k ≤ 61) (gh : List GObj) : ∀ m i, i + m = k → runL pg q3v ⟨[(0, I k), (3, I ((2 ^ i : Nat) : Int)), (4, I i)], [], gh⟩ = some (.normal, ⟨[(3, I ((2 ^ k : Nat) : Int))], [], gh⟩)
 | 0, i, h => by
  obtain rfl : i = k := by omega
  refine (ji7 (s1 := ?s1) (q8l_ ?h1)).trans ?r1
  case h1 => simp [q8l]; rfl
  case r1 => simp [keep]
 | m + 1, i, h => by
  have hlt : (i : Int) < (k : Int) := by omega
  have h1 : 2 ^ i ≤ 2 ^ 60 := Nat.pow_le_pow_right (by decide) (by omega)
  have e1 : IntKind.i64.wrap (2 * ((2 ^ i : Nat) : Int)) = ((2 ^ (i + 1) : Nat) : Int) := by
   rw [Nat.pow_succ]
   generalize 2 ^ i = q at h1
   rw [ji5 (by omega) (by omega)]; omega
  have e2 : IntKind.i64.wrap ((i : Int) + 1) = ((i + 1 : Nat) : Int) := by rw [ji5 (by omega) (by omega)]; omega
  refine ji4 (s1 := ⟨[(0, I k), (3, I ((2 ^ (i + 1) : Nat) : Int)), (4, I ((i + 1 : Nat) : Int))], [], gh⟩) (q8l_ ?h2) ?r2
  case h2 => rw [q8l, e1, e2, decide_eq_true hlt]; rfl
  case r2 => exact jpa hk gh m (i + 1) (by omega)
theorem Two_eq {k : Nat} (hk : k ≤ 61) (gh : List GObj) : callL pg 27 [I k] gh = some (I ((2 ^ k : Nat) : Int), gh) := by
 have hl := jpa hk gh k 0 (by omega)
 have hk1 := qgz_ (pg := pg) (gh := gh) (x3 := ((2 ^ k : Nat) : Int)) (e := .ret) (s := ⟨[(2, I ((2 ^ k : Nat) : Int))], [], gh⟩) rfl
 refine ji3 (fn := q6q) (s := ⟨[(2, I ((2 ^ k : Nat) : Int))], [], gh⟩) rfl rfl (qdw_ ?h1) ?r1
 case h1 =>
  have hl' : runL pg q3v ⟨[(0, I k), (3, I 1), (4, I 0)], [], gh⟩ = some (.normal, ⟨[(3, I ((2 ^ k : Nat) : Int))], [], gh⟩) := hl
  rw [qdw, hl', jjr, jm4, hk1, jjr]
 case r1 => simp [finish, results, q6q, resOfs, resOf, resOk]
theorem Bit_eq {A i : Nat} (hA : A < 65536) (hi : i ≤ 61) (gh : List GObj) : callL pg 97 [I A, I i] gh = some (I ((A / 2 ^ i % 2 : Nat) : Int), gh) := by
 have h0 : (2 : Nat) ^ i ≠ 0 := by have := Nat.one_le_two_pow (n := i); omega
 have h1 : A / 2 ^ i ≤ A := Nat.div_le_self _ _
 have e1 : Int.tmod (IntKind.i64.wrap (Int.tdiv (A : Int) ((2 ^ i : Nat) : Int))) 2 = ((A / 2 ^ i % 2 : Nat) : Int) := by
  have e0 : Int.tdiv (A : Int) ((2 ^ i : Nat) : Int) = ((A / 2 ^ i : Nat) : Int) := (Int.ofNat_tdiv _ _).symm
  rw [e0]
  generalize A / 2 ^ i = q at h1
  rw [ji5 (by omega) (by omega)]
  exact (Int.ofNat_tmod _ 2).symm
 have h2 : (((2 ^ i : Nat) : Int) ≠ 0) := by omega
 refine ji3 (fn := q7h) (s := ⟨[(4, I ((A / 2 ^ i % 2 : Nat) : Int))], [], gh⟩) rfl rfl (qdx_ ?h1) ?r1
 case h1 =>
  rw [qdx, Two_eq hi gh, jic, jib, decide_eq_true h2, e1]; rfl
 case r1 => simp [finish, results, q7h, resOfs, resOf, resOk]
theorem jmb (b : Bool) (gh : List GObj) : callL pg 68 [B b] gh = some (I (if b then 1 else 0), gh) := by
 cases b
 ·refine ji3 (fn := q2h) (s := ?s1) rfl rfl (q8n_ ?h1) ?r1
  case h1 => simp [q8n]; rfl
  case r1 => simp [finish, results, q2h, resOfs, resOf, resOk]
 ·refine ji3 (fn := q2h) (s := ?s2) rfl rfl (q8n_ ?h2) ?r2
  case h2 => simp [q8n]; rfl
  case r2 => simp [finish, results, q2h, resOfs, resOf, resOk]
theorem jkd {w : Nat} (hw : 1 ≤ w ∧ w ≤ 8) : w = 1 ∨ w = 2 ∨ w = 3 ∨ w = 4 ∨ w = 5 ∨ w = 6 ∨ w = 7 ∨ w = 8 := by omega
theorem jvm {A w : Nat} (hw : 1 ≤ w ∧ w ≤ 8) (hA : A < 2 ^ w) : A / 2 ^ (w - 1) % 2 = if 2 ^ (w - 1) ≤ A then 1 else 0 := by
 rcases jkd hw with rfl | rfl | rfl | rfl | rfl | rfl | rfl | rfl <;> simp at hA ⊢ <;> split <;> omega
theorem jpb {A w : Nat} (hw : 1 ≤ w ∧ w ≤ 8) (hA : A < 2 ^ w) : sgnOf A w = if 2 ^ (w - 1) ≤ A then (A : Int) - ((2 ^ w : Nat) : Int) else A := by
 have h1 := pow_lt hw.2
 have e0 : ((w : Int) - 1) = ((w - 1 : Nat) : Int) := by omega
 rw [sgnOf, e0, jm9 (by omega), jm9 hw.2, ← jj9, ← jj9, ji5 (by omega) (by omega)]
 by_cases h : 2 ^ (w - 1) ≤ A
 ·rw [if_pos h, if_pos (by omega)]
 ·rw [if_neg h, if_neg (by omega)]
theorem jmc {A w : Nat} (hw : 1 ≤ w ∧ w ≤ 8) (hA : A < 2 ^ w) (gh : List GObj) : callL pg 69 [I A, I w] gh = some (I (sgnOf A w), gh) := by
 have h1 := pow_lt hw.2
 have e0 : IntKind.i64.wrap ((w : Int) - 1) = ((w - 1 : Nat) : Int) := by rw [ji5 (by omega) (by omega)]; omega
 have hs := jpb hw hA
 have hb := jvm hw hA
 have ew : IntKind.i64.wrap ((A : Int) - ((2 ^ w : Nat) : Int)) = (A : Int) - ((2 ^ w : Nat) : Int) := ji5 (by omega) (by omega)
 by_cases h : 2 ^ (w - 1) ≤ A
 ·rw [if_pos h] at hs hb
  refine ji3 (fn := q2i) (s := ⟨[(4, I (sgnOf A w))], [], gh⟩) rfl rfl (q8m_ ?h1) ?r1
  case h1 =>
   rw [q8m, e0, Bit_eq (by omega) (by omega), jic, jib, hb, show (((1 : Nat) : Int) == 1) = true from rfl, jiu, Two_eq (by omega), jic, jib, ew, hs]
  case r1 => simp [finish, results, q2i, resOfs, resOf, resOk]
 ·rw [if_neg h] at hs hb
  refine ji3 (fn := q2i) (s := ⟨[(4, I (sgnOf A w))], [], gh⟩) rfl rfl (q8m_ ?h2) ?r2
  case h2 =>
   rw [q8m, e0, Bit_eq (by omega) (by omega), jic, jib, hb, hs, show (((0 : Nat) : Int) == 1) = false from rfl, jim]
  case r2 => simp [finish, results, q2i, resOfs, resOf, resOk]
def tbl (t0 t1 t2 t3 : Int) (x y : Nat) : Int := if x = 0 then (if y = 0 then t0 else t1) else (if y = 0 then t2 else t3)
theorem jvn {A B i w : Nat} (t0 t1 t2 t3 : Int) (s : Int) (hA : A < 65536) (hB : B < 65536) (hi : i < w) (hw : w ≤ 8) (gh : List GObj) :
  q4f pg A B w s i t0 t1 t2 t3 gh = some (.normal, ⟨[(0, I A), (1, I B), (2, I w), (7, .ptr false 0 0), (9, I (IntKind.i64.wrap (s + IntKind.i64.wrap (tbl t0 t1 t2 t3 (A / 2 ^ i % 2) (B / 2 ^ i % 2) * ((2 ^ i : Nat) : Int))))), (10, I ((i + 1 : Nat) : Int))], [[I t0, I t1, I t2, I t3]], gh⟩) := by
 have hlt : (i : Int) < (w : Int) := by omega
 have e2 : IntKind.i64.wrap ((i : Int) + 1) = ((i + 1 : Nat) : Int) := by rw [ji5 (by omega) (by omega)]; omega
 have hx : A / 2 ^ i % 2 = 0 ∨ A / 2 ^ i % 2 = 1 := by omega
 have hy : B / 2 ^ i % 2 = 0 ∨ B / 2 ^ i % 2 = 1 := by omega
 rw [q4f, e2, decide_eq_true hlt, jiu, Bit_eq hA (by omega), jic, jib, Bit_eq hB (by omega), jic, jib]
 rcases hx with hx | hx <;> rcases hy with hy | hy <;> rw [hx, hy]
 ·rw [show IntKind.i64.wrap (IntKind.i64.wrap (2 * ((0 : Nat) : Int)) + ((0 : Nat) : Int)) = 0 by decide]
  have := Two_eq (show i ≤ 61 by omega) gh
  rw [jj9] at this
  simp [this, tbl]
 ·rw [show IntKind.i64.wrap (IntKind.i64.wrap (2 * ((0 : Nat) : Int)) + ((1 : Nat) : Int)) = 1 by decide]
  have := Two_eq (show i ≤ 61 by omega) gh
  rw [jj9] at this
  simp [this, tbl]
 ·rw [show IntKind.i64.wrap (IntKind.i64.wrap (2 * ((1 : Nat) : Int)) + ((0 : Nat) : Int)) = 2 by decide]
  have := Two_eq (show i ≤ 61 by omega) gh
  rw [jj9] at this
  simp [this, tbl]
 ·rw [show IntKind.i64.wrap (IntKind.i64.wrap (2 * ((1 : Nat) : Int)) + ((1 : Nat) : Int)) = 3 by decide]
  have := Two_eq (show i ≤ 61 by omega) gh
  rw [jj9] at this
  simp [this, tbl]
theorem jpc {A B w R : Nat} (t0 t1 t2 t3 : Int) (hA : A < 65536) (hB : B < 65536) (hw : w ≤ 8) (hR : ∀ i, tbl t0 t1 t2 t3 (A / 2 ^ i % 2) (B / 2 ^ i % 2) = ((R / 2 ^ i % 2 : Nat) : Int)) (gh : List GObj) :
  ∀ m i, i + m = w → runL pg q74 ⟨[(0, I A), (1, I B), (2, I w), (7, .ptr false 0 0), (9, I ((R % 2 ^ i : Nat) : Int)), (10, I i)], [[I t0, I t1, I t2, I t3]], gh⟩ = some (.normal, ⟨[(9, I ((R % 2 ^ w : Nat) : Int))], [], gh⟩)
 | 0, i, h => by
  obtain rfl : i = w := by omega
  refine (ji7 (s1 := ?s1) (q4f_ ?h1)).trans ?r1
  case h1 => simp only [q4f, Int.lt_irrefl, decide_false, jim]; rfl
  case r1 => rfl
 | m + 1, i, h => by
  refine ji4 (q4f_ (jvn t0 t1 t2 t3 _ hA hB (by omega) hw gh)) ?r2
  have e : IntKind.i64.wrap (((R % 2 ^ i : Nat) : Int) + IntKind.i64.wrap (tbl t0 t1 t2 t3 (A / 2 ^ i % 2) (B / 2 ^ i % 2) * ((2 ^ i : Nat) : Int))) = ((R % 2 ^ (i + 1) : Nat) : Int) := by
   have h1 := pow_lt (show i ≤ 8 by omega)
   have h2 : R % 2 ^ i < 2 ^ i := Nat.mod_lt _ (by have := Nat.one_le_two_pow (n := i); omega)
   rw [hR i, ← Int.natCast_mul, Nat.mod_pow_succ, Nat.mul_comm (R / 2 ^ i % 2)]
   have h3 : 2 ^ i * (R / 2 ^ i % 2) ≤ 256 * 1 := Nat.mul_le_mul h1 (by omega)
   generalize R % 2 ^ i = x at h2 ⊢
   generalize 2 ^ i * (R / 2 ^ i % 2) = y at h3 ⊢
   generalize 2 ^ i = q at h1 h2
   rw [ji5 (n := (y : Int)) (by omega) (by omega), ji5 (by omega) (by omega)]
   omega
  rw [e]
  exact jpc t0 t1 t2 t3 hA hB hw hR gh m (i + 1) (by omega)
theorem jmd {A B w R : Nat} (t0 t1 t2 t3 : Int) (hA : A < 65536) (hB : B < 65536) (hw : w ≤ 8) (hR : ∀ i, tbl t0 t1 t2 t3 (A / 2 ^ i % 2) (B / 2 ^ i % 2) = ((R / 2 ^ i % 2 : Nat) : Int)) (gh : List GObj) :
  callL pg 67 [I A, I B, I w, .agg [I t0, I t1, I t2, I t3]] gh = some (I ((R % 2 ^ w : Nat) : Int), gh) := by
 have hl := jpc t0 t1 t2 t3 hA hB hw hR gh w 0 (by omega)
 rw [Nat.pow_zero, Nat.mod_one] at hl
 have hk1 := qh3_ (pg := pg) (gh := gh) (x9 := ((R % 2 ^ w : Nat) : Int)) (e := .ret) (s := ⟨[(8, I ((R % 2 ^ w : Nat) : Int))], [], gh⟩) rfl
 refine ji3 (fn := q76) (s := ⟨[(8, I ((R % 2 ^ w : Nat) : Int))], [], gh⟩) rfl rfl (qdy_ ?h1) ?r1
 case h1 =>
  rw [qdy]
  erw [hl]
  rw [jjr, jm4, hk1, jjr]
 case r1 => simp [finish, results, q76, resOfs, resOf, resOk]
theorem jvo (A B i : Nat) : tbl 0 0 0 1 (A / 2 ^ i % 2) (B / 2 ^ i % 2) = (((A &&& B) / 2 ^ i % 2 : Nat) : Int) := by
 rw [← Nat.toNat_testBit, ← Nat.toNat_testBit, ← Nat.toNat_testBit, Nat.testBit_and]
 cases A.testBit i <;> cases B.testBit i <;> rfl
theorem tbl_or (A B i : Nat) : tbl 0 1 1 1 (A / 2 ^ i % 2) (B / 2 ^ i % 2) = (((A ||| B) / 2 ^ i % 2 : Nat) : Int) := by
 rw [← Nat.toNat_testBit, ← Nat.toNat_testBit, ← Nat.toNat_testBit, Nat.testBit_or]
 cases A.testBit i <;> cases B.testBit i <;> rfl
theorem jvp (A B i : Nat) : tbl 0 1 1 0 (A / 2 ^ i % 2) (B / 2 ^ i % 2) = (((A ^^^ B) / 2 ^ i % 2 : Nat) : Int) := by
 rw [← Nat.toNat_testBit, ← Nat.toNat_testBit, ← Nat.toNat_testBit, Nat.testBit_xor]
 cases A.testBit i <;> cases B.testBit i <;> rfl
end Go.Lw
end

/-! What the functions of package gates come to. -/
section
namespace Go.Lw
open Go
theorem jpd {xs : List Int} {c : Nat} {caps : List PV} {gh : List GObj} {p : Int → Bool} (hc : ∀ x ∈ xs, callL pg c (I x :: caps) gh = some (B (p x), gh)) (hcap : caps.all argOk = true) (hs : Sz xs.length) :
  ∀ k i, i + k = xs.length → runL pg q5y ⟨[(0, LI xs), (1, .fn c caps), (7, I xs.length), (8, I i)], [], gh⟩ =
   match (xs.drop i).findIdx? p with
   | some j => some (.ret, ⟨[(4, I ((i + j : Nat)))], [], gh⟩)
   | none => some (.normal, ⟨[], [], gh⟩)
 | 0, i, h => by
  rw [List.drop_eq_nil_of_le (by omega)]
  refine (ji7 (s1 := ?s1) (q4g_ ?h1)).trans ?r1
  case h1 => simp [q4g, show i = xs.length by omega]; rfl
  case r1 => simp [keep]
 | k + 1, i, h => by
  have hlt : i < xs.length := by omega
  have hx : xs[i]? = some xs[i] := List.getElem?_eq_getElem hlt
  rw [List.drop_eq_getElem_cons hlt, List.findIdx?_cons]
  cases hp : p xs[i] with
  | true =>
   refine (lp_ret (s1 := ?s2) (q4g_ ?h2)).trans ?r2
   case h2 => simp [q4g, hlt, hx, jm5 hcap, hc xs[i] (List.getElem_mem hlt), hp]; rfl
   case r2 => simp
  | false =>
   refine ji4 (s1 := ?s3) (q4g_ ?h3) ?r3
   case h3 => simp [q4g, hlt, hx, jm5 hcap, hc xs[i] (List.getElem_mem hlt), hp]; rfl
   case r3 =>
    rw [jip (by omega)]
    refine (jpd hc hcap hs k (i + 1) (by omega)).trans ?_
    cases (xs.drop (i + 1)).findIdx? p <;> simp
    omega
theorem jvq {xs : List Int} {c : Nat} {caps : List PV} {gh : List GObj} {p : Int → Bool} (hc : ∀ x ∈ xs, callL pg c (I x :: caps) gh = some (B (p x), gh)) (hcap : caps.all argOk = true) (hs : Sz xs.length) :
  callL pg 111 [LI xs, .fn c caps] gh = some (I (match xs.findIdx? p with | some j => (j : Int) | none => -1), gh) := by
 have hl := jpd hc hcap hs xs.length 0 (by omega)
 simp only [List.drop_zero, Nat.zero_add, Int.natCast_zero] at hl
 cases hf : xs.findIdx? p with
 | some j =>
  rw [hf] at hl
  refine ji3 (fn := q1y) (s := ?s4) rfl rfl (q8q_ ?h4) ?r4
  case h4 => simp [q8q, hl]; rfl
  case r4 => simp [finish, results, q1y, resOfs, resOf, resOk, argOk, PV.one, PV.noG]
 | none =>
  rw [hf] at hl
  refine ji3 (fn := q1y) (s := ?s5) rfl rfl (q8q_ ?h5) ?r5
  case h5 => simp [q8q, hl, qh6_ (s := ⟨[(4, I (-1))], [], gh⟩) (e := .ret) rfl]; rfl
  case r5 => simp [finish, results, q1y, resOfs, resOf, resOk, argOk, PV.one, PV.noG]
theorem jpe {xs : List Int} {c : Nat} {caps : List PV} {gh : List GObj} {p : Int → Bool} (hc : ∀ x ∈ xs, callL pg c (I x :: caps) gh = some (B (p x), gh)) (hcap : caps.all argOk = true) (hs : Sz xs.length) :
  callL pg 86 [LI xs, .fn c caps] gh = some (B (xs.any p), gh) := by
 refine ji3 (fn := q5s) (s := ?s6) rfl rfl (qdz_ ?h6) ?r6
 case h6 => simp [qdz, jvq hc hcap hs]; rfl
 case r6 =>
  have : (decide (0 ≤ (match xs.findIdx? p with | some j => (j : Int) | none => -1))) = xs.any p := by
   cases hf : xs.findIdx? p with
   | some j =>
    have := List.findIdx?_eq_some_iff_getElem.1 hf
    obtain ⟨hj, hpj, _⟩ := this
    simp only [Int.natCast_nonneg, decide_true]
    exact (List.any_eq_true.2 ⟨_, List.getElem_mem hj, hpj⟩).symm
   | none =>
    have := List.findIdx?_eq_none_iff.1 hf
    simp only [show decide ((0 : Int) ≤ -1) = false by decide]
    exact (List.any_eq_false.2 fun x hx => by simp [this x hx]).symm
  simp [finish, results, q5s, resOfs, resOf, resOk, argOk, PV.one, PV.noG, this]
end Go.Lw
end

/-! Graphs: maps whose keys are Ands, and the check of a graph. -/
section
namespace Go.Lw
open Go
theorem jj7 (x : Int × Int) : andV x = .agg [I x.1, I x.2] := rfl
def badA (ins : Int) (i : Nat) (x : Int × Int) : Prop := x.2 ≤ x.1 ∨ x.1 < 2 ∨ 2 * (1 + ins + i) ≤ x.2 ∨ x.1 / 2 = x.2 / 2
instance (ins : Int) (i : Nat) (x : Int × Int) : Decidable (badA ins i x) := inferInstanceAs (Decidable (_ ∨ _))
section
variable {ins : Int} {ands : List (Int × Int)} {gh : List GObj}
def RA (ands : List (Int × Int)) : Prop := ∀ x ∈ ands, (-9223372036854775808 ≤ x.1 ∧ x.1 ≤ 9223372036854775807) ∧ (-9223372036854775808 ≤ x.2 ∧ x.2 ≤ 9223372036854775807)
end
end Go.Lw
end

/-! Clauses: what the program makes and checks. -/
section
namespace Go.Lw
open Go
theorem noGs_ints (l : List Int) : noGs (l.map I) = true := by
 induction l with
 | nil => rfl
 | cons x l ih => simp [ih]
section
variable {gh : List GObj} {x y : GObj}
end
section
variable {ins : Int} {ands : List (Int × Int)} {gh : List GObj}
def SL (cls : List (List Int)) : Prop := ∀ l ∈ cls, Sz l.length
end
end Go.Lw
end

/-! Nodes of models: what the program and the document say of one. -/
section
namespace Go.Lw
open Go
structure Nd where
 k : Int
 w : Int
 a : Int
 b : Int
 c : Int
 n : Int
 deriving Inhabited
def nodeV (x : Nd) : PV := .agg [I x.k, I x.w, I x.a, I x.b, I x.c, I x.n]
theorem jik (x : Nd) : nodeV x = .agg [I x.k, I x.w, I x.a, I x.b, I x.c, I x.n] := rfl
abbrev LN (l : List Nd) : PV := .sl false 6 (l.map nodeV)
theorem jjg (k : Int) : takesOf k = 0 ∨ takesOf k = 1 ∨ takesOf k = 2 ∨ takesOf k = 3 := by
 unfold takesOf
 repeat' split
 all_goals simp
theorem jvr {k : Int} (h : 1 ≤ k ∧ k ≤ 3) : takesOf k = 0 := by
 unfold takesOf; rw [if_pos (by omega)]
def argsL (x : Nd) : List Int := [x.a, x.b, x.c].take (takesOf x.k).toNat
theorem jpf (x : Nd) (gh : List GObj) : callL pg 81 [nodeV x] gh = some (LI (argsL x), gh) := by
 unfold nodeV argsL
 have ht := jix x.k gh
 rcases jjg x.k with h | h | h | h <;> rw [h] at ht ⊢
 ·refine ji3 (fn := qo) (s := ?s0) rfl rfl (q31_ ?h0) ?r0
  case h0 => simp [q31, ht]; rfl
  case r0 => simp [finish, results, qo, resOk, get]
 ·refine ji3 (fn := qo) (s := ?s1) rfl rfl (q31_ ?h1) ?r1
  case h1 => simp [q31, ht]; rfl
  case r1 => simp [finish, results, qo, resOk, get]
 ·refine ji3 (fn := qo) (s := ?s2) rfl rfl (q31_ ?h2) ?r2
  case h2 => simp [q31, ht]; rfl
  case r2 => simp [finish, results, qo, resOk, get]
 ·refine ji3 (fn := qo) (s := ?s3) rfl rfl (q31_ ?h3) ?r3
  case h3 => simp [q31, ht]; rfl
  case r3 => simp [finish, results, qo, resOk, get]
theorem jvs (k : Int) (gh : List GObj) : callL pg 103 [I k] gh = some (B (decide (1 ≤ k ∧ k ≤ 3)), gh) := by
 by_cases h : 1 ≤ k
 ·refine ji3 (fn := q24) (s := ?s1) rfl rfl (q8r_ ?h1) ?r1
  case h1 => simp [q8r, h]; rfl
  case r1 => simp [finish, results, q24, resOfs, resOf, resOk, h]
 ·refine ji3 (fn := q24) (s := ?s2) rfl rfl (q8r_ ?h2) ?r2
  case h2 => simp [q8r, h]; rfl
  case r2 => simp [finish, results, q24, resOfs, resOf, resOk, h]
def wAt (l : List Nd) (a : Int) : Int := (l.getD a.toNat default).w
def isNo (l : List Nd) (a : Int) : Prop := 0 ≤ a ∧ a.toNat < l.length
instance (l : List Nd) (a : Int) : Decidable (isNo l a) := inferInstanceAs (Decidable (_ ∧ _))
theorem jis {l : List Nd} {a : Int} (h : isNo l a) : (l.map nodeV)[a.toNat]? = some (nodeV (l.getD a.toNat default)) := by
 rw [List.getElem?_map, List.getElem?_eq_getElem h.2]
 simp [List.getD_eq_getElem?_getD, List.getElem?_eq_getElem h.2]
def wdSt (l : List Nd) (x : Nd) (w0 w1 w2 : Int) (xs : List Int) (i : Int) (gh : List GObj) : St :=
 ⟨[(0, LN l), (4, .ptr false 1 0), (5, .ptr false 2 0), (9, LI xs), (10, I xs.length), (11, I i)], [[I x.k, I x.w, I x.a, I x.b, I x.c, I x.n], [I 0, I 0, I 0], [I w0, I w1, I w2]], gh⟩
theorem jjs {l : List Nd} {x : Nd} {w0 w1 w2 a i : Int} {xs : List Int} {gh : List GObj} (hi : i = 0 ∨ i = 1 ∨ i = 2) (hx : xs[i.toNat]? = some a) (ha : isNo l a) :
  q1p pg (LN l) (LI xs) xs.length i x.k x.w x.a x.b x.c x.n 0 0 0 w0 w1 w2 gh =
   some (.normal, wdSt l x (if i = 0 then wAt l a else w0) (if i = 1 then wAt l a else w1) (if i = 2 then wAt l a else w2) xs (i + 1) gh) := by
 have hlt := (List.getElem?_eq_some_iff.1 hx).1
 have hltI : i < (xs.length : Int) := by omega
 have hm : (xs.map I)[i.toNat]? = some (I a) := by rw [List.getElem?_map, hx]; rfl
 have hn := jis ha
 have h0 := ha.1
 have hw : IntKind.i64.wrap (i + 1) = i + 1 := ji5 (by omega) (by omega)
 generalize hd : l.getD a.toNat default = d at hn
 have hwa : wAt l a = d.w := by unfold wAt; rw [hd]
 rw [hwa]
 rw [jik d] at hn
 unfold wdSt
 have h5 : 0 < xs.length := by omega
 rcases hi with rfl | rfl | rfl
 ·have e0 : xs[0] = a := (List.getElem?_eq_some_iff.1 hx).2
  rw [Int.zero_add] at hw
  simp [q1p, h5, e0, hn, h0, hw, spliceAt, -List.getElem?_map]
 ·have hm0 : (xs.map I)[1]? = some (I a) := hm
  simp [q1p, hltI, hm0, hn, h0, spliceAt, -List.getElem?_map]
  exact hw
 ·have hm0 : (xs.map I)[2]? = some (I a) := hm
  simp [q1p, hltI, hm0, hn, h0, spliceAt, -List.getElem?_map]
  exact hw
def wdJ (l : List Nd) (k j a : Int) : Int := if j < takesOf k then wAt l a else 0
structure ArgsIn (l : List Nd) (x : Nd) : Prop where
 a : 0 < takesOf x.k → isNo l x.a
 b : 1 < takesOf x.k → isNo l x.b
 c : 2 < takesOf x.k → isNo l x.c
def widthsV (l : List Nd) (x : Nd) : PV := .agg [I (wdJ l x.k 0 x.a), I (wdJ l x.k 1 x.b), I (wdJ l x.k 2 x.c)]
theorem jkz {l : List Nd} {x : Nd} {w0 w1 w2 : Int} {xs : List Int} {gh : List GObj} : runL pg q3t (wdSt l x w0 w1 w2 xs xs.length gh) =
  some (.normal, ⟨[(4, .ptr false 1 0), (5, .ptr false 2 0)], [[I x.k, I x.w, I x.a, I x.b, I x.c, I x.n], [I 0, I 0, I 0], [I w0, I w1, I w2]], gh⟩) := by
 refine (ji7 (s1 := ?s1) (q1p_ ?h1)).trans ?r1
 case h1 => simp [q1p]; rfl
 case r1 => simp [keep, stays]
theorem jvt {l : List Nd} {x : Nd} {gh : List GObj} (h : ArgsIn l x) : runL pg q3t (wdSt l x 0 0 0 (argsL x) 0 gh) =
  some (.normal, ⟨[(4, .ptr false 1 0), (5, .ptr false 2 0)], [[I x.k, I x.w, I x.a, I x.b, I x.c, I x.n], [I 0, I 0, I 0], [I (wdJ l x.k 0 x.a), I (wdJ l x.k 1 x.b), I (wdJ l x.k 2 x.c)]], gh⟩) := by
 unfold argsL wdJ
 rcases jjg x.k with ht | ht | ht | ht <;> rw [ht]
 ·exact jkz (xs := [])
 ·refine ji4 (q1p_ (jjs (a := x.a) (.inl rfl) rfl (h.a (by omega)))) ?_
  exact jkz (xs := [x.a])
 ·refine ji4 (q1p_ (jjs (a := x.a) (.inl rfl) rfl (h.a (by omega)))) ?_
  refine ji4 (q1p_ (jjs (a := x.b) (.inr (.inl rfl)) rfl (h.b (by omega)))) ?_
  exact jkz (xs := [x.a, x.b])
 ·refine ji4 (q1p_ (jjs (a := x.a) (.inl rfl) rfl (h.a (by omega)))) ?_
  refine ji4 (q1p_ (jjs (a := x.b) (.inr (.inl rfl)) rfl (h.b (by omega)))) ?_
  refine ji4 (q1p_ (jjs (a := x.c) (.inr (.inr rfl)) rfl (h.c (by omega)))) ?_
  exact jkz (xs := [x.a, x.b, x.c])
theorem jpg {l : List Nd} {x : Nd} {gh : List GObj} (h : ArgsIn l x) : callL pg 104 [LN l, nodeV x] gh = some (widthsV l x, gh) := by
 have hA := jpf x gh
 have hl := jvt (gh := gh) h
 unfold wdSt at hl
 have hk := qh9_ (pg := pg) (gh := gh) (xc0_0 := x.k) (xc0_1 := x.w) (xc0_2 := x.a) (xc0_3 := x.b) (xc0_4 := x.c) (xc0_5 := x.n) (xc1_0 := 0) (xc1_1 := 0) (xc1_2 := 0) (xc2_0 := wdJ l x.k 0 x.a) (xc2_1 := wdJ l x.k 1 x.b) (xc2_2 := wdJ l x.k 2 x.c) rfl
 unfold nodeV at hA
 have hlen : ((argsL x).map I).length = (argsL x).length := by simp
 refine ji3 (fn := q6h) (s := ?s1) rfl rfl (qe0_ ?h1) ?r1
 case h1 => simp [qe0, hA, hl, hk]; rfl
 case r1 => simp [finish, results, q6h, resOfs, resOf, St.cellsAt, resOk, widthsV]
theorem jph {l : List Nd} {x : Nd} {gh : List GObj} (h : ArgsIn l x) : callL pg 102 [LN l, nodeV x] gh = some (widthsV l x, gh) := by
 have ht := jiv x.k gh
 have k3 : ∀ (w0 w1 w2 : Int), runL pg q2k ⟨[(4, .ptr false 1 0), (5, .ptr false 2 0)], [[I x.k, I x.w, I x.a, I x.b, I x.c, I x.n], [I 0, I 0, I 0], [I w0, I w1, I w2]], gh⟩ =
   some (.ret, ⟨[(4, .ptr false 1 0)], [[I x.k, I x.w, I x.a, I x.b, I x.c, I x.n], [I w0, I w1, I w2]], gh⟩) := fun w0 w1 w2 => qhc_ rfl
 have k2 : ∀ (w0 w1 : Int), runL pg q2l ⟨[(0, LN l), (3, .ptr false 0 0), (4, .ptr false 1 0), (5, .ptr false 2 0), (6, I (takesOf x.k))], [[I x.k, I x.w, I x.a, I x.b, I x.c, I x.n], [I 0, I 0, I 0], [I w0, I w1, I 0]], gh⟩ =
   some (.ret, ⟨[(4, .ptr false 1 0)], [[I x.k, I x.w, I x.a, I x.b, I x.c, I x.n], [I w0, I w1, I (wdJ l x.k 2 x.c)]], gh⟩) := fun w0 w1 => by
  refine q8u_ ?_
  unfold wdJ
  by_cases h2 : 2 < takesOf x.k
  ·have hn := jis (h.c h2)
   have h0 := (h.c h2).1
   unfold wAt
   generalize l.getD x.c.toNat default = d at *
   rw [jik d] at hn
   simp [q8u, h2, hn, h0, k3, -List.getElem?_map]
  ·simp [q8u, h2, k3]
 have k1 : ∀ (w0 : Int), runL pg q2m ⟨[(0, LN l), (3, .ptr false 0 0), (4, .ptr false 1 0), (5, .ptr false 2 0), (6, I (takesOf x.k))], [[I x.k, I x.w, I x.a, I x.b, I x.c, I x.n], [I 0, I 0, I 0], [I w0, I 0, I 0]], gh⟩ =
   some (.ret, ⟨[(4, .ptr false 1 0)], [[I x.k, I x.w, I x.a, I x.b, I x.c, I x.n], [I w0, I (wdJ l x.k 1 x.b), I (wdJ l x.k 2 x.c)]], gh⟩) := fun w0 => by
  refine q8v_ ?_
  by_cases h2 : 1 < takesOf x.k
  ·have hn := jis (h.b h2)
   have h0 := (h.b h2).1
   have e : wdJ l x.k 1 x.b = (l.getD x.b.toNat default).w := by unfold wdJ wAt; rw [if_pos h2]
   rw [e]
   generalize l.getD x.b.toNat default = d at *
   rw [jik d] at hn
   simp [q8v, h2, hn, h0, k2, -List.getElem?_map]
  ·have e : wdJ l x.k 1 x.b = 0 := by unfold wdJ; rw [if_neg h2]
   rw [e]
   simp [q8v, h2, k2]
 unfold widthsV
 refine ji3 (fn := q7i) (s := ⟨[(4, .ptr false 1 0)], [[I x.k, I x.w, I x.a, I x.b, I x.c, I x.n], [I (wdJ l x.k 0 x.a), I (wdJ l x.k 1 x.b), I (wdJ l x.k 2 x.c)]], gh⟩) rfl rfl (q8w_ ?h1) ?r1
 case h1 =>
  by_cases h2 : 0 < takesOf x.k
  ·have hn := jis (h.a h2)
   have h0 := (h.a h2).1
   have e : wdJ l x.k 0 x.a = (l.getD x.a.toNat default).w := by unfold wdJ wAt; rw [if_pos h2]
   rw [e]
   generalize l.getD x.a.toNat default = d at *
   rw [jik d] at hn
   simp [q8w, ht, h2, hn, h0, k1, -List.getElem?_map]
  ·have e : wdJ l x.k 0 x.a = 0 := by unfold wdJ; rw [if_neg h2]
   rw [e]
   simp [q8w, ht, h2, k1]
 case r1 => simp [finish, results, q7i, resOfs, resOf, St.cellsAt, resOk]
end Go.Lw
end

/-! What is wrong with a node: the program's answer and the document's. -/
section
namespace Go.Lw
open Go
def badJ (idx k j a : Int) : Prop := if j < takesOf k then a < 0 ∨ idx ≤ a else a ≠ 0
instance (idx k j a : Int) : Decidable (badJ idx k j a) := inferInstanceAs (Decidable (if j < takesOf k then a < 0 ∨ idx ≤ a else a ≠ 0))
def badArgs (idx : Int) (x : Nd) : Prop := badJ idx x.k 0 x.a ∨ badJ idx x.k 1 x.b ∨ badJ idx x.k 2 x.c
instance (idx : Int) (x : Nd) : Decidable (badArgs idx x) := inferInstanceAs (Decidable (_ ∨ _))
def nodeE (l : List Nd) (idx : Int) (x : Nd) : Int :=
 if x.k < 1 ∨ 24 ≤ x.k then 7 else if ¬ (1 ≤ x.w ∧ x.w ≤ 8) then 3
 else if x.k ≤ 3 then (if x.k = 1 ∧ ¬ (0 ≤ x.n ∧ x.n < ((2 ^ x.w.toNat : Nat) : Int)) then 3 else if (x.k ≠ 1 ∧ x.n ≠ 0) ∨ x.a ≠ 0 ∨ x.b ≠ 0 ∨ x.c ≠ 0 then 1 else 0)
 else if badArgs idx x then 4 else fitE x.k x.w x.n (wdJ l x.k 0 x.a) (wdJ l x.k 1 x.b) (wdJ l x.k 2 x.c)
theorem jme {l : List Nd} {idx : Nat} {x : Nd} (hi : idx ≤ l.length) (h : ¬ badArgs idx x) : ArgsIn l x := by
 unfold badArgs badJ at h
 simp only [not_or] at h
 obtain ⟨h0, h1, h2⟩ := h
 refine ⟨fun q => ?_, fun q => ?_, fun q => ?_⟩
 ·rw [if_pos q] at h0
  exact ⟨by omega, by omega⟩
 ·rw [if_pos q] at h1
  exact ⟨by omega, by omega⟩
 ·rw [if_pos q] at h2
  exact ⟨by omega, by omega⟩
section
variable {l : List Nd} {x : Nd} {gh : List GObj}
def nlSt (l : List Nd) (idx : Int) (x : Nd) (j : Int) (gh : List GObj) : St :=
 ⟨[(0, LN l), (1, I idx), (5, .ptr false 0 0), (67, .sl true 1 [I x.a, I x.b, I x.c]), (68, I 3), (69, I j)], [[I x.k, I x.w, I x.a, I x.b, I x.c, I x.n]], gh⟩
theorem jmf {idx j a : Int} (hj : (j = 0 ∧ a = x.a) ∨ (j = 1 ∧ a = x.b) ∨ (j = 2 ∧ a = x.c)) :
  q10 pg (LN l) idx (.sl true 1 [I x.a, I x.b, I x.c]) 3 j x.k x.w x.a x.b x.c x.n gh = if badJ idx x.k j a then some (.ret, ⟨[(4, I 4)], [], gh⟩) else some (.normal, nlSt l idx x (j + 1) gh) := by
 have hw : (IntKind.i64.wrap (j + 1)) = j + 1 := ji5 (by omega) (by omega)
 by_cases hk : j < takesOf x.k
 ·have hk' := Int.not_le.2 hk
  by_cases h1 : a < 0
  ·rw [if_pos (by unfold badJ; rw [if_pos hk]; exact .inl h1)]
   rcases hj with ⟨rfl, rfl⟩ | ⟨rfl, rfl⟩ | ⟨rfl, rfl⟩ <;> simp [q10, jix, hk, h1]
  ·by_cases h2 : idx ≤ a
   ·rw [if_pos (by unfold badJ; rw [if_pos hk]; exact .inr h2)]
    rcases hj with ⟨rfl, rfl⟩ | ⟨rfl, rfl⟩ | ⟨rfl, rfl⟩ <;> simp [q10, jix, hk, h1, h2]
   ·rw [if_neg (by unfold badJ; rw [if_pos hk]; rintro (h | h) <;> contradiction)]
    unfold nlSt
    rcases hj with ⟨rfl, rfl⟩ | ⟨rfl, rfl⟩ | ⟨rfl, rfl⟩ <;> simp [q10, jix, hk, hk', h1, h2] <;> exact hw
 ·have hk' := Int.not_lt.1 hk
  by_cases h2 : a = 0
  ·rw [if_neg (by unfold badJ; rw [if_neg hk]; exact fun h => h h2)]
   unfold nlSt
   rcases hj with ⟨rfl, rfl⟩ | ⟨rfl, rfl⟩ | ⟨rfl, rfl⟩ <;> simp [q10, jix, hk, hk', h2] <;> exact hw
  ·rw [if_pos (by unfold badJ; rw [if_neg hk]; exact h2)]
   rcases hj with ⟨rfl, rfl⟩ | ⟨rfl, rfl⟩ | ⟨rfl, rfl⟩ <;> simp [q10, jix, hk, hk', h2]
theorem jvu {idx : Int} : runL pg q61 (nlSt l idx x 0 gh) =
  if badArgs idx x then some (.ret, ⟨[(4, I 4)], [], gh⟩) else some (.normal, ⟨[(0, LN l), (5, .ptr false 0 0)], [[I x.k, I x.w, I x.a, I x.b, I x.c, I x.n]], gh⟩) := by
 have b0 := jmf (l := l) (x := x) (gh := gh) (idx := idx) (j := 0) (a := x.a) (by simp)
 have b1 := jmf (l := l) (x := x) (gh := gh) (idx := idx) (j := 1) (a := x.b) (by simp)
 have b2 := jmf (l := l) (x := x) (gh := gh) (idx := idx) (j := 2) (a := x.c) (by simp)
 by_cases h0 : badJ idx x.k 0 x.a
 ·rw [if_pos h0] at b0
  rw [if_pos (.inl h0)]
  exact lp_ret (q10_ b0)
 rw [if_neg h0] at b0
 refine ji4 (q10_ b0) ?_
 by_cases h1 : badJ idx x.k 1 x.b
 ·rw [if_pos h1] at b1
  rw [if_pos (.inr (.inl h1))]
  exact lp_ret (q10_ b1)
 rw [if_neg h1] at b1
 refine ji4 (q10_ b1) ?_
 by_cases h2 : badJ idx x.k 2 x.c
 ·rw [if_pos h2] at b2
  rw [if_pos (.inr (.inr h2))]
  exact lp_ret (q10_ b2)
 rw [if_neg h2] at b2
 refine ji4 (q10_ b2) ?_
 rw [if_neg (by rintro (h | h | h) <;> contradiction)]
 refine (ji7 (s1 := ?s1) (q10_ ?h1)).trans ?r1
 case h1 => simp [q10]; rfl
 case r1 => simp [keep, stays]
theorem jvv {idx : Nat} (hi : idx ≤ l.length) (b : Bool) : runL pg q5 ⟨[(0, LN l), (1, I idx), (5, .ptr false 0 0), (26, B b)], [[I x.k, I x.w, I x.a, I x.b, I x.c, I x.n]], gh⟩ =
  some (.ret, ⟨[(4, I (if badArgs idx x then 4 else fitE x.k x.w x.n (wdJ l x.k 0 x.a) (wdJ l x.k 1 x.b) (wdJ l x.k 2 x.c)))], [], gh⟩) := by
 refine q8t_ ?_
 have hl := jvu (l := l) (x := x) (gh := gh) (idx := idx)
 unfold nlSt at hl
 by_cases hb : badArgs idx x
 ·rw [if_pos hb] at hl
  simp [q8t, hl, hb]
 ·rw [if_neg hb] at hl
  have hW := jpg (gh := gh) (jme hi hb)
  have hF := Fit_eq x.k x.w x.n (wdJ l x.k 0 x.a) (wdJ l x.k 1 x.b) (wdJ l x.k 2 x.c) gh
  unfold widthsV at hW
  rw [jik x] at hW
  have hk := qe1_ (pg := pg) (gh := gh) (v0 := LN l) (xc0_0 := x.k) (xc0_1 := x.w) (xc0_2 := x.a) (xc0_3 := x.b) (xc0_4 := x.c) (xc0_5 := x.n) (e := .ret)
   (s := ⟨[(4, I (fitE x.k x.w x.n (wdJ l x.k 0 x.a) (wdJ l x.k 1 x.b) (wdJ l x.k 2 x.c)))], [], gh⟩) (by
   simp [qe1, hW, hF])
  simp [q8t, hl, hb, hk]
theorem shl1 {w : Int} (h : 1 ≤ w ∧ w ≤ 8) : iShl .i64 1 w = ((2 ^ w.toNat : Nat) : Int) := by
 obtain ⟨h1, h2⟩ := h
 have : w = 1 ∨ w = 2 ∨ w = 3 ∨ w = 4 ∨ w = 5 ∨ w = 6 ∨ w = 7 ∨ w = 8 := by omega
 rcases this with rfl | rfl | rfl | rfl | rfl | rfl | rfl | rfl <;> decide +kernel
theorem jvw {idx : Nat} (hx : l[idx]? = some x) : callL pg 76 [LN l, I idx] gh = some (I (nodeE l idx x), gh) := by
 have hlt := (List.getElem?_eq_some_iff.1 hx).1
 have hg : (l.map nodeV)[idx]? = some (nodeV x) := by rw [List.getElem?_map, hx]; rfl
 rw [jik x] at hg
 have k3 := jvv (l := l) (x := x) (gh := gh) (idx := idx) (by omega)
 have hw := jj8 x.w gh
 have hlf := jvs x.k gh
 have k1t : runL pg q8 ⟨[(39, B true)], [], gh⟩ = some (.ret, ⟨[(4, I 1)], [], gh⟩) := qha_ rfl
 have k1f : runL pg q8 ⟨[(39, B false)], [], gh⟩ = some (.normal, ⟨[(39, B false)], [], gh⟩) := qha_ rfl
 have k2 : runL pg q9 ⟨[(39, B false)], [], gh⟩ = some (.ret, ⟨[(4, I 0)], [], gh⟩) := qhb_ rfl
 unfold nodeE
 refine ji3 (fn := q63) (s := ⟨[(4, I (nodeE l idx x))], [], gh⟩) rfl rfl (qb_ ?h1) ?r1
 case r1 => simp [finish, results, q63, resOfs, resOf, resOk, nodeE]
 case h1 =>
  unfold nodeE
  by_cases h1 : x.k < 1
  ·simp [qb, hg, h1, -List.getElem?_map]
  by_cases h2 : 24 ≤ x.k
  ·simp [qb, hg, h1, h2, -List.getElem?_map]
  by_cases h3 : 1 ≤ x.w ∧ x.w ≤ 8
  ·rw [decide_eq_true h3] at hw
   by_cases h4 : x.k ≤ 3
   ·rw [decide_eq_true ⟨by omega, h4⟩] at hlf
    by_cases h5 : x.k = 1
    ·have hI := jp6 x.n x.w (by omega) gh
     rw [shl1 h3] at hI
     generalize ((2 ^ x.w.toNat : Nat) : Int) = T at *
     by_cases h6 : 0 ≤ x.n ∧ x.n < T
     ·rw [decide_eq_true h6] at hI
      rw [h5] at hg hlf
      by_cases ha : x.a = 0
      ·by_cases hb : x.b = 0
       ·by_cases hc : x.c = 0
        ·simp [qb, hg, h3, hw, hlf, h5, hI, h6, ha, hb, hc, k1f, k2, -List.getElem?_map]
        ·simp [qb, hg, h3, hw, hlf, h5, hI, h6, ha, hb, hc, k1t, -List.getElem?_map]
       ·simp [qb, hg, h3, hw, hlf, h5, hI, h6, ha, hb, k1t, -List.getElem?_map]
      ·simp [qb, hg, h3, hw, hlf, h5, hI, h6, ha, k1t, -List.getElem?_map]
     ·rw [decide_eq_false h6] at hI
      rw [h5] at hg hlf
      simp [qb, hg, h3, hw, hlf, h5, hI, h6, -List.getElem?_map]
    ·by_cases hn : x.n = 0
     ·by_cases ha : x.a = 0
      ·by_cases hb : x.b = 0
       ·by_cases hc : x.c = 0
        ·simp [qb, hg, h1, h2, h3, hw, h4, hlf, h5, hn, ha, hb, hc, k1f, k2, -List.getElem?_map]
        ·simp [qb, hg, h1, h2, h3, hw, h4, hlf, h5, hn, ha, hb, hc, k1t, -List.getElem?_map]
       ·simp [qb, hg, h1, h2, h3, hw, h4, hlf, h5, hn, ha, hb, k1t, -List.getElem?_map]
      ·simp [qb, hg, h1, h2, h3, hw, h4, hlf, h5, hn, ha, k1t, -List.getElem?_map]
     ·simp [qb, hg, h1, h2, h3, hw, h4, hlf, h5, hn, k1t, -List.getElem?_map]
   ·rw [decide_eq_false (fun h => h4 h.2)] at hlf
    have k3' := k3 false
    simp [qb, hg, h1, h2, h3, hw, h4, hlf, k3', -List.getElem?_map]
  ·rw [decide_eq_false h3] at hw
   simp [qb, hg, h1, h2, h3, hw, -List.getElem?_map]
def cnSt (l : List Nd) (idx : Int) (x : Nd) (j : Int) (gh : List GObj) : St :=
 ⟨[(0, LN l), (1, I idx), (5, .ptr false 0 0), (6, .sl true 1 [I x.a, I x.b, I x.c]), (7, I j)], [[I x.k, I x.w, I x.a, I x.b, I x.c, I x.n]], gh⟩
theorem jmg {idx j a : Int} (hix : 0 ≤ idx ∧ idx ≤ 1000000) (hj : (j = 0 ∧ a = x.a) ∨ (j = 1 ∧ a = x.b) ∨ (j = 2 ∧ a = x.c)) :
  q1b pg (LN l) idx (.sl true 1 [I x.a, I x.b, I x.c]) j x.k x.w x.a x.b x.c x.n gh = if badJ idx x.k j a then some (.ret, ⟨[(4, I 4)], [], gh⟩) else some (.normal, cnSt l idx x (j + 1) gh) := by
 have hw : (IntKind.i64.wrap (j + 1)) = j + 1 := ji5 (by omega) (by omega)
 have hm : IntKind.i64.wrap (idx - 1) = idx - 1 := ji5 (by omega) (by omega)
 have hbt := jio a 0 (idx - 1) gh
 by_cases hk : j < takesOf x.k
 ·have hk' := Int.not_le.2 hk
  by_cases h1 : 0 ≤ a ∧ a ≤ idx - 1
  ·rw [decide_eq_true h1] at hbt
   rw [if_neg (by unfold badJ; rw [if_pos hk]; omega)]
   unfold cnSt
   rcases hj with ⟨rfl, rfl⟩ | ⟨rfl, rfl⟩ | ⟨rfl, rfl⟩ <;> simp [q1b, jiv, hk, hk', hm, hbt] <;> exact hw
  ·rw [decide_eq_false h1] at hbt
   rw [if_pos (by unfold badJ; rw [if_pos hk]; omega)]
   rcases hj with ⟨rfl, rfl⟩ | ⟨rfl, rfl⟩ | ⟨rfl, rfl⟩ <;> simp [q1b, jiv, hk, hm, hbt]
 ·have hk' := Int.not_lt.1 hk
  by_cases h2 : a = 0
  ·rw [if_neg (by unfold badJ; rw [if_neg hk]; exact fun h => h h2)]
   unfold cnSt
   rcases hj with ⟨rfl, rfl⟩ | ⟨rfl, rfl⟩ | ⟨rfl, rfl⟩ <;> simp [q1b, jiv, hk, hk', h2] <;> exact hw
  ·rw [if_pos (by unfold badJ; rw [if_neg hk]; exact h2)]
   rcases hj with ⟨rfl, rfl⟩ | ⟨rfl, rfl⟩ | ⟨rfl, rfl⟩ <;> simp [q1b, jiv, hk, hk', h2]
theorem jvx {idx : Int} (hix : 0 ≤ idx ∧ idx ≤ 1000000) : runL pg qv (cnSt l idx x 0 gh) =
  if badArgs idx x then some (.ret, ⟨[(4, I 4)], [], gh⟩) else some (.normal, ⟨[(0, LN l), (5, .ptr false 0 0)], [[I x.k, I x.w, I x.a, I x.b, I x.c, I x.n]], gh⟩) := by
 have b0 := jmg (l := l) (x := x) (gh := gh) (idx := idx) (j := 0) (a := x.a) hix (by simp)
 have b1 := jmg (l := l) (x := x) (gh := gh) (idx := idx) (j := 1) (a := x.b) hix (by simp)
 have b2 := jmg (l := l) (x := x) (gh := gh) (idx := idx) (j := 2) (a := x.c) hix (by simp)
 by_cases h0 : badJ idx x.k 0 x.a
 ·rw [if_pos h0] at b0
  rw [if_pos (.inl h0)]
  exact lp_ret (q1b_ b0)
 rw [if_neg h0] at b0
 refine ji4 (q1b_ b0) ?_
 by_cases h1 : badJ idx x.k 1 x.b
 ·rw [if_pos h1] at b1
  rw [if_pos (.inr (.inl h1))]
  exact lp_ret (q1b_ b1)
 rw [if_neg h1] at b1
 refine ji4 (q1b_ b1) ?_
 by_cases h2 : badJ idx x.k 2 x.c
 ·rw [if_pos h2] at b2
  rw [if_pos (.inr (.inr h2))]
  exact lp_ret (q1b_ b2)
 rw [if_neg h2] at b2
 refine ji4 (q1b_ b2) ?_
 rw [if_neg (by rintro (h | h | h) <;> contradiction)]
 refine (ji7 (s1 := ?s1) (q1b_ ?h1)).trans ?r1
 case h1 => simp [q1b]; rfl
 case r1 => simp [keep, stays]
theorem jvy {idx : Nat} (hi : idx ≤ l.length) (hb : ¬ badArgs idx x) : runL pg qt ⟨[(0, LN l), (5, .ptr false 0 0)], [[I x.k, I x.w, I x.a, I x.b, I x.c, I x.n]], gh⟩ =
  some (.ret, ⟨[(4, I (fitE x.k x.w x.n (wdJ l x.k 0 x.a) (wdJ l x.k 1 x.b) (wdJ l x.k 2 x.c)))], [], gh⟩) := by
 have hW := jph (gh := gh) (jme hi hb)
 have hF := jvd x.k x.w x.n (wdJ l x.k 0 x.a) (wdJ l x.k 1 x.b) (wdJ l x.k 2 x.c) gh
 unfold widthsV at hW
 rw [jik x] at hW
 refine qe2_ ?_
 simp [qe2, hW, hF]
theorem jvz {idx : Nat} (hx : l[idx]? = some x) (hlen : l.length ≤ 1000000) : callL pg 72 [LN l, I idx] gh = some (I (nodeE l idx x), gh) := by
 have hlt := (List.getElem?_eq_some_iff.1 hx).1
 have hg : (l.map nodeV)[idx]? = some (nodeV x) := by rw [List.getElem?_map, hx]; rfl
 rw [jik x] at hg
 have b1 := jio x.k 1 23 gh
 have b2 := jio x.w 1 8 gh
 have hl := jvx (l := l) (x := x) (gh := gh) (idx := idx) (by omega)
 unfold cnSt at hl
 refine ji3 (fn := q77) (s := ⟨[(4, I (nodeE l idx x))], [], gh⟩) rfl rfl (qc_ ?h1) ?r1
 case r1 => simp [finish, results, q77, resOfs, resOf, resOk]
 case h1 =>
  unfold nodeE
  by_cases h12 : 1 ≤ x.k ∧ x.k ≤ 23
  ·rw [decide_eq_true h12] at b1
   have h1 : ¬ x.k < 1 := by omega
   have h2 : ¬ 24 ≤ x.k := by omega
   by_cases h3 : 1 ≤ x.w ∧ x.w ≤ 8
   ·rw [decide_eq_true h3] at b2
    by_cases h4 : x.k ≤ 3
    ·by_cases h5 : x.k = 1
     ·obtain ⟨T, hTT, hT, e1⟩ : ∃ T : Int, ((2 ^ x.w.toNat : Nat) : Int) = T ∧ callL pg 27 [I x.w] gh = some (I T, gh) ∧ IntKind.i64.wrap (T - 1) = T - 1 := by
       have hT := Two_eq (k := x.w.toNat) (by omega) gh
       have hp : 2 ^ x.w.toNat ≤ 2 ^ 8 := Nat.pow_le_pow_right (by decide) (by omega)
       rw [show ((x.w.toNat : Nat) : Int) = x.w by omega] at hT
       generalize 2 ^ x.w.toNat = T at *
       exact ⟨T, rfl, hT, ji5 (by omega) (by omega)⟩
      rw [hTT]
      have hB := jio x.n 0 (T - 1) gh
      have d5 : decide (x.k = 1) = true := decide_eq_true h5
      have d4 : decide (x.k ≤ 3) = true := decide_eq_true h4
      have d7 : decide (1 < x.k) = false := decide_eq_false (by omega)
      have ev : ∀ r : Int, (if x.k < 1 ∨ 24 ≤ x.k then 7 else if ¬ (1 ≤ x.w ∧ x.w ≤ 8) then 3
        else if x.k ≤ 3 then (if x.k = 1 ∧ ¬ (0 ≤ x.n ∧ x.n < T) then 3 else if (x.k ≠ 1 ∧ x.n ≠ 0) ∨ x.a ≠ 0 ∨ x.b ≠ 0 ∨ x.c ≠ 0 then 1 else 0)
        else if badArgs idx x then 4 else fitE x.k x.w x.n (wdJ l x.k 0 x.a) (wdJ l x.k 1 x.b) (wdJ l x.k 2 x.c)) = r →
       (if x.k < 1 ∨ 24 ≤ x.k then 7 else if ¬ (1 ≤ x.w ∧ x.w ≤ 8) then 3
        else if x.k ≤ 3 then (if x.k = 1 ∧ ¬ (0 ≤ x.n ∧ x.n < T) then 3 else if (x.k ≠ 1 ∧ x.n ≠ 0) ∨ x.a ≠ 0 ∨ x.b ≠ 0 ∨ x.c ≠ 0 then 1 else 0)
        else if badArgs idx x then 4 else fitE x.k x.w x.n (wdJ l x.k 0 x.a) (wdJ l x.k 1 x.b) (wdJ l x.k 2 x.c)) = r := fun _ h => h
      by_cases h6 : 0 ≤ x.n ∧ x.n < T
      ·rw [decide_eq_true ⟨h6.1, by omega⟩] at hB
       by_cases ha : x.a = 0
       ·by_cases hb : x.b = 0
        ·by_cases hc : x.c = 0
         ·rw [ev 0 (by simp [h5, h3, h6, ha, hb, hc])]
          simp [qc, hg, b1, b2, d5, d4, d7, hT, e1, hB, ha, hb, hc, -List.getElem?_map]
         ·rw [ev 1 (by simp [h5, h3, h6, ha, hb, hc])]
          simp [qc, hg, b1, b2, d5, d4, d7, hT, e1, hB, ha, hb, hc, -List.getElem?_map]
        ·rw [ev 1 (by simp [h5, h3, h6, ha, hb])]
         simp [qc, hg, b1, b2, d5, d4, d7, hT, e1, hB, ha, hb, -List.getElem?_map]
       ·rw [ev 1 (by simp [h5, h3, h6, ha])]
        simp [qc, hg, b1, b2, d5, d4, d7, hT, e1, hB, ha, -List.getElem?_map]
      ·rw [decide_eq_false (by omega)] at hB
       rw [ev 3 (by simp [h5, h3, h6])]
       simp [qc, hg, b1, b2, d5, hT, e1, hB, -List.getElem?_map]
     ·have h7 : 1 < x.k := by omega
      by_cases hn : x.n = 0
      ·by_cases ha : x.a = 0
       ·by_cases hb : x.b = 0
        ·by_cases hc : x.c = 0
         ·simp [qc, hg, h1, h2, h3, b1, b2, h4, h5, h7, hn, ha, hb, hc, -List.getElem?_map]
         ·simp [qc, hg, h1, h2, h3, b1, b2, h4, h5, h7, hn, ha, hb, hc, -List.getElem?_map]
        ·simp [qc, hg, h1, h2, h3, b1, b2, h4, h5, h7, hn, ha, hb, -List.getElem?_map]
       ·simp [qc, hg, h1, h2, h3, b1, b2, h4, h5, h7, hn, ha, -List.getElem?_map]
      ·simp [qc, hg, h1, h2, h3, b1, b2, h4, h5, h7, hn, -List.getElem?_map]
    ·have h5 : x.k ≠ 1 := by omega
     by_cases hb : badArgs idx x
     ·rw [if_pos hb] at hl
      simp [qc, hg, h1, h2, h3, b1, b2, h4, h5, hb, hl, -List.getElem?_map]
     ·rw [if_neg hb] at hl
      have hk := jvy (l := l) (gh := gh) (idx := idx) (by omega) hb
      simp [qc, hg, h1, h2, h3, b1, b2, h4, h5, hb, hl, hk, -List.getElem?_map]
   ·rw [decide_eq_false h3] at b2
    simp [qc, hg, h1, h2, h3, b1, b2, -List.getElem?_map]
  ·rw [decide_eq_false h12] at b1
   have h1 : x.k < 1 ∨ 24 ≤ x.k := by omega
   simp [qc, hg, h1, b1, -List.getElem?_map]
end
end Go.Lw
end

/-! What the nodes of a graph are: what the program makes. -/
section
namespace Go.Lw
open Go
@[simp] theorem noG_ep (e : PV) (o : Nat) : PV.noG (.ep e o) = e.noG := rfl
section
variable {gh : List GObj}
end
end Go.Lw
end

/-! Models: nodes of a kind, bits, and what hangs on an input (the program). -/
section
namespace Go.Lw
open Go
structure Md where
 nodes : List Nd
 inits : List (Int × Int)
 nexts : List (Int × Int)
 bads : List Int
 holds : List Int
abbrev LP (l : List (Int × Int)) : PV := .sl false 2 (l.map andV)
def modelV (m : Md) : PV := .agg [LN m.nodes, LP m.inits, LP m.nexts, LI m.bads, LI m.holds]
theorem ji9 (m : Md) : modelV m = .agg [LN m.nodes, LP m.inits, LP m.nexts, LI m.bads, LI m.holds] := rfl
def kindF (kind : Int) : Nat → List Nd → List Int
 | _, [] => []
 | i, x :: l => if x.k = kind then (i : Int) :: kindF kind (i + 1) l else kindF kind (i + 1) l
def kindL (l : List Nd) (kind : Int) : List Int := kindF kind 0 l
theorem jjt (kind : Int) : ∀ (i : Nat) (l : List Nd), (kindF kind i l).length ≤ l.length
 | _, [] => Nat.le_refl _
 | i, x :: l => by
  have := jjt kind (i + 1) l
  rw [kindF]; split <;> simp <;> omega
theorem kindF_mem {kind : Int} : ∀ {i : Nat} {l : List Nd} {a : Int}, a ∈ kindF kind i l ↔ ∃ j, j < l.length ∧ a = ((i + j : Nat) : Int) ∧ (l[j]?.map (·.k)) = some kind
 | i, [], a => by simp [kindF]
 | i, x :: l, a => by
  have ih := kindF_mem (kind := kind) (i := i + 1) (l := l) (a := a)
  rw [kindF]
  constructor
  ·intro h
   split at h
   ·rename_i hk
    rcases List.mem_cons.1 h with h | h
    ·exact ⟨0, by simp, by simpa using h, by simp [hk]⟩
    ·obtain ⟨j, h1, h2, h3⟩ := ih.1 h
     exact ⟨j + 1, by simp; omega, by rw [h2]; omega, by simpa using h3⟩
   ·obtain ⟨j, h1, h2, h3⟩ := ih.1 h
    exact ⟨j + 1, by simp; omega, by rw [h2]; omega, by simpa using h3⟩
  ·rintro ⟨j, h1, h2, h3⟩
   cases j with
   | zero =>
    simp at h3
    rw [if_pos h3]
    exact List.mem_cons.2 (.inl (by simpa using h2))
   | succ j =>
    have := ih.2 ⟨j, by simpa using h1, by rw [h2]; omega, by simpa using h3⟩
    split
    ·exact List.mem_cons_of_mem _ this
    ·exact this
section
variable {m : Md} {gh : List GObj}
def ofkSt (l : List Nd) (kind : Int) (acc : List Int) (i : Nat) (gh : List GObj) : St :=
 ⟨[(1, I kind), (5, .sl true 1 (acc.map I)), (9, LN l), (10, I l.length), (11, I (i : Int))], [], gh⟩
theorem ofk_k1 {l : List Nd} {kind : Int} {acc : List Int} {i : Nat} (hi : i ≤ 100000) : runL pg q23 ⟨[(1, I kind), (5, .sl true 1 (acc.map I)), (9, LN l), (10, I l.length), (11, I (i : Int))], [], gh⟩ = some (.normal, ofkSt l kind acc (i + 1) gh) := by
 have e2 : IntKind.i64.wrap ((i : Int) + 1) = ((i + 1 : Nat) : Int) := by rw [ji5 (by omega) (by omega)]; omega
 refine qe3_ ?_
 simp [qe3, e2, ofkSt]
theorem jmh {l : List Nd} {kind : Int} (hl : l.length ≤ 1000) : ∀ k i (acc : List Int), i + k = l.length → acc.length ≤ i →
  runL pg q6d (ofkSt l kind acc i gh) = some (.normal, ⟨[(5, .sl true 1 ((acc ++ kindF kind i (l.drop i)).map I))], [], gh⟩)
 | 0, i, acc, h, _ => by
  rw [List.drop_eq_nil_of_le (by omega)]
  have hlt : ¬ (i : Int) < (l.length : Int) := by omega
  refine (ji7 (s1 := ?s1) (q4j_ ?h1)).trans ?r1
  case h1 => simp only [q4j, decide_eq_false hlt, jim]; rfl
  case r1 => simp [keep, kindF, stays]
 | k + 1, i, acc, h, ha => by
  have hlt : i < l.length := by omega
  have hltI : (i : Int) < (l.length : Int) := by omega
  have hx : (l.map nodeV)[i]? = some (nodeV l[i]) := by simp [List.getElem?_eq_getElem hlt]
  rw [jik l[i]] at hx
  have hmx : (acc.length + 1) * 8 ≤ maxBytes := by
   have : maxBytes = 140737488355328 := rfl
   omega
  rw [List.drop_eq_getElem_cons hlt, kindF]
  generalize l[i] = x at *
  by_cases hk : x.k = kind
  ·rw [if_pos hk]
   have hk1 := ofk_k1 (gh := gh) (l := l) (kind := kind) (acc := acc ++ [(i : Int)]) (i := i) (by omega)
   have e : acc ++ (i : Int) :: kindF kind (i + 1) (l.drop (i + 1)) = (acc ++ [(i : Int)]) ++ kindF kind (i + 1) (l.drop (i + 1)) := by simp
   rw [e]
   refine ji4 (s1 := ofkSt l kind (acc ++ [(i : Int)]) (i + 1) gh) (q4j_ ?_) (jmh hl k (i + 1) _ (by omega) (by simp; omega))
   have hal : (acc.map I).length = acc.length := by simp
   unfold ofkSt at *
   simp only [List.map_append, List.map_cons, List.map_nil] at hk1 ⊢
   generalize acc.map I = A at *
   simp [q4j, hltI, hx, hk, hal, hmx, hk1, -List.getElem?_map]
  ·rw [if_neg hk]
   have hk1 := ofk_k1 (gh := gh) (l := l) (kind := kind) (acc := acc) (i := i) (by omega)
   refine ji4 (s1 := ofkSt l kind acc (i + 1) gh) (q4j_ ?_) (jmh hl k (i + 1) _ (by omega) (by omega))
   unfold ofkSt at *
   generalize acc.map I = A at *
   simp [q4j, hltI, hx, hk, hk1, -List.getElem?_map]
theorem Ofk_eq {kind : Int} (hl : m.nodes.length ≤ 1000) : callL pg 101 [modelV m, I kind] gh = some (LI (kindL m.nodes kind), gh) := by
 have h := jmh (gh := gh) (l := m.nodes) (kind := kind) hl m.nodes.length 0 [] (by omega) (by simp)
 rw [List.drop_zero, List.nil_append] at h
 unfold ofkSt at h
 simp only [List.map_nil, Int.natCast_zero] at h
 have hn := noGs_ints (kindF kind 0 m.nodes)
 have hln : (m.nodes.map nodeV).length = m.nodes.length := by simp
 have hk := qe4_ (pg := pg) (gh := gh) (v5 := .sl true 1 ((kindF kind 0 m.nodes).map I)) (e := .ret) (s := ⟨[(4, .sl false 1 ((kindF kind 0 m.nodes).map I))], [], gh⟩) (by simp [qe4])
 unfold kindL
 simp only [LI]
 generalize (kindF kind 0 m.nodes).map I = K at *
 rw [ji9]
 refine ji3 (fn := q6f) (s := ⟨[(4, .sl false 1 K)], [], gh⟩) rfl rfl (qe5_ ?h1) ?r1
 case h1 => simp [qe5, h, hk]
 case r1 => simp [finish, results, q6f, resOfs, resOf, resOk, hn]
def addW (s : Int) (x : Nd) : Int := IntKind.i64.wrap (s + x.w)
def bitsK (l : List Nd) (kind : Int) : Int := (l.filter fun x => decide (x.k = kind)).foldl addW 0
theorem jmi (L : List Nd) (kind : Int) : ∀ (i : Nat) (l : List Nd) (s : Int), l = L.drop i → (kindF kind i l).foldl (fun s a => IntKind.i64.wrap (s + wAt L a)) s = (l.filter fun x => decide (x.k = kind)).foldl addW s
 | _, [], _, _ => rfl
 | i, x :: l, s, h => by
  have hi : L[i]? = some x := by
   have := congrArg (·[0]?) h
   simpa using this.symm
  have hd : l = L.drop (i + 1) := by
   have := congrArg List.tail h
   rw [List.tail_drop] at this
   exact this
  have hw : wAt L (i : Int) = x.w := by unfold wAt; simp [List.getD_eq_getElem?_getD, hi]
  rw [kindF, List.filter_cons]
  by_cases hk : x.k = kind
  ·rw [if_pos hk, if_pos (by simpa using hk), List.foldl_cons, List.foldl_cons, hw]
   exact jmi L kind (i + 1) l _ hd
  ·rw [if_neg hk, if_neg (by simpa using hk)]
   exact jmi L kind (i + 1) l s hd
def biSt (m : Md) (xs : List Int) (s : Int) (i : Nat) (gh : List GObj) : St :=
 ⟨[(2, .ptr false 0 0), (5, I s), (8, LI xs), (9, I xs.length), (10, I (i : Int))], [[LN m.nodes, LP m.inits, LP m.nexts, LI m.bads, LI m.holds]], gh⟩
theorem jpi {xs : List Int} (hx : ∀ a ∈ xs, isNo m.nodes a) (hl : xs.length ≤ 1000) : ∀ k i s, i + k = xs.length →
  runL pg q6i (biSt m xs s i gh) = some (.normal, ⟨[(5, I ((xs.drop i).foldl (fun s a => IntKind.i64.wrap (s + wAt m.nodes a)) s))], [], gh⟩)
 | 0, i, s, h => by
  rw [List.drop_eq_nil_of_le (by omega)]
  have hlt : ¬ (i : Int) < (xs.length : Int) := by omega
  refine (ji7 (s1 := ?s1) (q8z_ ?h1)).trans ?r1
  case h1 => simp only [q8z, decide_eq_false hlt, jim]; rfl
  case r1 => simp [keep, stays]
 | k + 1, i, s, h => by
  have hlt : i < xs.length := by omega
  have hltI : (i : Int) < (xs.length : Int) := by omega
  have e2 : IntKind.i64.wrap ((i : Int) + 1) = ((i + 1 : Nat) : Int) := by rw [ji5 (by omega) (by omega)]; omega
  have hg : (xs.map I)[i]? = some (I xs[i]) := by simp [List.getElem?_eq_getElem hlt]
  have hno := hx _ (List.getElem_mem hlt)
  have hn := jis hno
  have h0 := hno.1
  rw [List.drop_eq_getElem_cons hlt, List.foldl_cons]
  generalize xs[i] = a at *
  refine ji4 (s1 := biSt m xs (IntKind.i64.wrap (s + wAt m.nodes a)) (i + 1) gh) (q8z_ ?_) (jpi hx hl k (i + 1) _ (by omega))
  unfold biSt wAt
  generalize m.nodes.getD a.toNat default = d at *
  rw [jik d] at hn
  simp [q8z, hltI, hg, h0, hn, e2, -List.getElem?_map]
theorem jw0 {xs : List Int} (hx : ∀ a ∈ xs, isNo m.nodes a) (hl : xs.length ≤ 1000) : callL pg 105 [modelV m, LI xs] gh = some (I (xs.foldl (fun s a => IntKind.i64.wrap (s + wAt m.nodes a)) 0), gh) := by
 have h := jpi (gh := gh) hx hl xs.length 0 0 (by omega)
 rw [List.drop_zero] at h
 unfold biSt at h
 simp only [Int.natCast_zero] at h
 generalize xs.foldl (fun s a => IntKind.i64.wrap (s + wAt m.nodes a)) 0 = r at *
 have hk := qhe_ (pg := pg) (gh := gh) (x5 := r) rfl
 rw [ji9]
 refine ji3 (fn := q6k) (s := ⟨[(4, I r)], [], gh⟩) rfl rfl (qe7_ ?h1) ?r1
 case h1 => simp [qe7, h, hk]
 case r1 => simp [finish, results, q6k, resOfs, resOf, resOk]
theorem jpj {l : List Nd} {kind a : Int} (h : a ∈ kindL l kind) : isNo l a := by
 obtain ⟨j, h1, h2, -⟩ := kindF_mem.1 h
 exact ⟨by omega, by omega⟩
theorem jw1 (hl : m.nodes.length ≤ 1000) : callL pg 77 [modelV m] gh = some (.tup [I (bitsK m.nodes 2), I (bitsK m.nodes 3)], gh) := by
 have b : ∀ kind, callL pg 105 [modelV m, LI (kindL m.nodes kind)] gh = some (I (bitsK m.nodes kind), gh) := fun kind => by
  have h := jw0 (m := m) (gh := gh) (xs := kindL m.nodes kind) (fun a ha => jpj ha) (Nat.le_trans (jjt kind 0 m.nodes) hl)
  have e := jmi m.nodes kind 0 m.nodes 0 rfl
  unfold kindL at h ⊢
  rw [e] at h
  exact h
 have o2 := Ofk_eq (m := m) (gh := gh) (kind := 2) hl
 have o3 := Ofk_eq (m := m) (gh := gh) (kind := 3) hl
 have b2 := b 2
 have b3 := b 3
 rw [ji9] at *
 refine ji3 (fn := q64) (s := ⟨[(2, I (bitsK m.nodes 2)), (3, I (bitsK m.nodes 3))], [], gh⟩) rfl rfl (qe6_ ?h1) ?r1
 case h1 => simp [qe6, o2, o3, b2, b3]
 case r1 => simp [finish, results, q64, resOfs, resOf, resOk]
def hangB (f : List Bool) (x : Nd) : Bool := decide (x.k = 2 ∨ x.k = 3) || (argsL x).any fun a => f.getD a.toNat false
def hangF : List Bool → List Nd → List Bool
 | f, [] => f
 | f, x :: l => hangF (f ++ [hangB f x]) l
theorem jmj : ∀ (f : List Bool) (l : List Nd), (hangF f l).length = f.length + l.length
 | f, [] => rfl
 | f, x :: l => by rw [hangF, jmj]; simp; omega
def Ahead (l : List Nd) : Prop := ∀ (i : Nat) (x : Nd), l[i]? = some x → ∀ a ∈ argsL x, 0 ≤ a ∧ a < i
def ckG (gh : List GObj) (m : Md) (f : List Bool) : List GObj := gh ++ [.cells [LN m.nodes, LP m.inits, LP m.nexts, LI m.bads, LI m.holds, .sl true 1 (f.map B)]]
theorem fr_idx {f : List Bool} {a : Int} (h : a.toNat < f.length) : (f.map B)[a.toNat]? = some (B (f.getD a.toNat false)) := by
 rw [List.getElem?_map, List.getElem?_eq_getElem h]
 simp [List.getD_eq_getElem?_getD, List.getElem?_eq_getElem h]
def le2St (m : Md) (f : List Bool) (xs : List Int) (b : Bool) (i j : Nat) (gh : List GObj) : St :=
 ⟨[(0, .ptr true gh.length 0), (4, B b), (11, LN m.nodes), (12, I m.nodes.length), (13, I (i : Int)), (26, LI xs), (27, I xs.length), (28, I (j : Int))], [], ckG gh m f⟩
theorem jpk {f : List Bool} {xs : List Int} {i : Nat} (hx : ∀ a ∈ xs, 0 ≤ a ∧ a.toNat < f.length) (hl : xs.length ≤ 1000) : ∀ k j b, j + k = xs.length →
  runL pg q1z (le2St m f xs b i j gh) = some (.normal, ⟨[(0, .ptr true gh.length 0), (4, B (b || (xs.drop j).any fun a => f.getD a.toNat false)), (11, LN m.nodes), (12, I m.nodes.length), (13, I (i : Int))], [], ckG gh m f⟩)
 | 0, j, b, h => by
  rw [List.drop_eq_nil_of_le (by omega)]
  have hlt : ¬ (j : Int) < (xs.length : Int) := by omega
  refine (ji7 (s1 := ?s1) (q4k_ ?h1)).trans ?r1
  case h1 => simp only [q4k, decide_eq_false hlt, jim]; rfl
  case r1 => simp [keep, stays]
 | k + 1, j, b, h => by
  have hlt : j < xs.length := by omega
  have hltI : (j : Int) < (xs.length : Int) := by omega
  have e2 : IntKind.i64.wrap ((j : Int) + 1) = ((j + 1 : Nat) : Int) := by rw [ji5 (by omega) (by omega)]; omega
  have hg : (xs.map I)[j]? = some (I xs[j]) := by simp [List.getElem?_eq_getElem hlt]
  obtain ⟨h0, h1⟩ := hx _ (List.getElem_mem hlt)
  rw [List.drop_eq_getElem_cons hlt, List.any_cons, ← Bool.or_assoc]
  generalize xs[j] = a at *
  have hfr := fr_idx h1
  generalize f.getD a.toNat false = c at *
  refine ji4 (s1 := le2St m f xs (b || c) i (j + 1) gh) (q4k_ ?_) (jpk hx hl k (j + 1) _ (by omega))
  unfold le2St ckG
  cases b with
  | true => simp [q4k, hltI, hg, e2, -List.getElem?_map]
  | false => simp [q4k, hltI, hg, h0, hfr, e2, -List.getElem?_map]
def le1St (m : Md) (f : List Bool) (i : Nat) (gh : List GObj) : St :=
 ⟨[(0, .ptr true gh.length 0), (11, LN m.nodes), (12, I m.nodes.length), (13, I (i : Int))], [], ckG gh m f⟩
theorem jpl (hA : Ahead m.nodes) (hl : m.nodes.length ≤ 1000) : ∀ k i f, i + k = m.nodes.length → f.length = i →
  runL pg q65 (le1St m f i gh) = some (.normal, ⟨[], [], ckG gh m (hangF f (m.nodes.drop i))⟩)
 | 0, i, f, h, _ => by
  rw [List.drop_eq_nil_of_le (by omega)]
  have hlt : ¬ (i : Int) < (m.nodes.length : Int) := by omega
  refine (ji7 (s1 := ?s1) (q4l_ ?h1)).trans ?r1
  case h1 => simp only [q4l, decide_eq_false hlt, jim]; rfl
  case r1 => simp [keep, hangF]
 | k + 1, i, f, h, hf => by
  have hlt : i < m.nodes.length := by omega
  have hltI : (i : Int) < (m.nodes.length : Int) := by omega
  have e2 : IntKind.i64.wrap ((i : Int) + 1) = ((i + 1 : Nat) : Int) := by rw [ji5 (by omega) (by omega)]; omega
  have hx : (m.nodes.map nodeV)[i]? = some (nodeV m.nodes[i]) := by simp [List.getElem?_eq_getElem hlt]
  have hah := hA i _ (List.getElem?_eq_getElem hlt)
  rw [List.drop_eq_getElem_cons hlt, hangF]
  generalize m.nodes[i] = x at *
  rw [jik x] at hx
  have hArg := jpf x (ckG gh m f)
  rw [jik x] at hArg
  have hal : (argsL x).length ≤ 3 := by unfold argsL; simp; omega
  have hl2 : ∀ b, runL pg q1z (le2St m f (argsL x) b i 0 gh) = _ := fun b => jpk (i := i) (fun a ha => ⟨(hah a ha).1, by have := hah a ha; omega⟩) (by omega) (argsL x).length 0 b (by omega)
  rw [List.drop_zero] at hl2
  generalize hany : ((argsL x).any fun a => f.getD a.toNat false) = c at *
  have hB : hangB f x = (decide (x.k = 2 ∨ x.k = 3) || c) := by unfold hangB; rw [hany]
  rw [hB]
  have hmx : f.length + 1 ≤ maxBytes := by
   have : maxBytes = 140737488355328 := rfl
   omega
  refine ji4 (s1 := le1St m (f ++ [decide (x.k = 2 ∨ x.k = 3) || c]) (i + 1) gh) (q4l_ ?_) (jpl hA hl k (i + 1) _ (by omega) (by simp; omega))
  have hk1 : ∀ b, runL pg q22 ⟨[(0, .ptr true gh.length 0), (4, B b), (11, LN m.nodes), (12, I m.nodes.length), (13, I (i : Int))], [], ckG gh m f⟩ = some (.normal, ⟨[(0, .ptr true gh.length 0), (11, LN m.nodes), (12, I m.nodes.length), (13, I (i : Int))], [], ckG gh m (f ++ [b])⟩) := fun b => by
   refine qe8_ ?_
   simp [qe8, ckG, spliceAt, hmx]
  have hk2 : ∀ b, runL pg q15 ⟨[(0, .ptr true gh.length 0), (11, LN m.nodes), (12, I m.nodes.length), (13, I (i : Int))], [], ckG gh m (f ++ [b])⟩ = some (.normal, le1St m (f ++ [b]) (i + 1) gh) := fun b => by
   refine qe9_ ?_
   simp [qe9, e2, le1St]
  unfold le2St at hl2
  simp only [Int.natCast_zero] at hl2
  unfold le1St at *
  generalize ckG gh m f = g0 at *
  by_cases h2 : x.k = 2
  ·have hd : decide (x.k = 2 ∨ x.k = 3) = true := decide_eq_true (.inl h2)
   have d2 : decide (x.k = 2) = true := decide_eq_true h2
   rw [hd]
   have := hl2 true
   have k1' := hk1 (true || c)
   have k2' := hk2 (true || c)
   generalize ckG gh m (f ++ [true || c]) = g1 at *
   simp only [Bool.true_or] at this k1' k2'
   simp [q4l, hltI, hx, d2, hArg, this, k1', k2', -List.getElem?_map]
  ·have d2 : decide (x.k = 2) = false := decide_eq_false h2
   have hd : decide (x.k = 2 ∨ x.k = 3) = decide (x.k = 3) := by simp [h2]
   rw [hd]
   have := hl2 (decide (x.k = 3))
   have k1' := hk1 (decide (x.k = 3) || c)
   have k2' := hk2 (decide (x.k = 3) || c)
   generalize ckG gh m (f ++ [decide (x.k = 3) || c]) = g1 at *
   simp [q4l, hltI, hx, d2, hArg, this, k1', k2', -List.getElem?_map]
theorem jw2 (hA : Ahead m.nodes) (hl : m.nodes.length ≤ 1000) : callL pg 78 [.ptr true gh.length 0] (ckG gh m []) = some (.tup [], ckG gh m (hangF [] m.nodes)) := by
 have h := jpl (gh := gh) hA hl m.nodes.length 0 [] (by omega) rfl
 rw [List.drop_zero] at h
 unfold le1St at h
 simp only [Int.natCast_zero] at h
 generalize ckG gh m (hangF [] m.nodes) = g1 at *
 have h1 := qea_ (pg := pg) (g0 := gh.length) (o0 := 0) (gh := ckG gh m []) (e := .normal) (s := ⟨[], [], g1⟩) (by
  unfold ckG at h ⊢
  simp [qea] at h ⊢
  simp [h])
 rw [jkb (fn := q66) rfl rfl h1]
 simp [finish, results, q66, resOfs, resOk]
theorem is_eq {f : List Bool} {n : Int} {g : List GObj} {b : Nat} (hb : g[b]? = some (.cells [LN m.nodes, LP m.inits, LP m.nexts, LI m.bads, LI m.holds, .sl true 1 (f.map B)])) : callL pg 118 [.ptr true b 0, I n] g = some (B (decide (isNo m.nodes n)), g) := by
 by_cases h : 0 ≤ n
 ·have e : decide (isNo m.nodes n) = decide (n < (m.nodes.length : Int)) := decide_eq_decide.2 ⟨fun h2 => by have := h2.2; omega, fun h2 => ⟨h, by omega⟩⟩
  rw [e]
  refine ji3 (fn := q25) (s := ?s1) rfl rfl (q90_ ?h1) ?r1
  case h1 => simp [q90, h, hb]; rfl
  case r1 => simp [finish, results, q25, resOfs, resOf, resOk]
 ·have e : decide (isNo m.nodes n) = false := decide_eq_false fun h2 => h h2.1
  rw [e]
  refine ji3 (fn := q25) (s := ?s2) rfl rfl (q90_ ?h2) ?r2
  case h2 => simp [q90, h]; rfl
  case r2 => simp [finish, results, q25, resOfs, resOf, resOk]
def pairE (l : List Nd) (f : List Bool) (init : Bool) (p : Int × Int) : Int :=
 if ¬ isNo l p.1 ∨ ¬ isNo l p.2 ∨ (l.getD p.1.toNat default).k ≠ 3 then 5 else if wAt l p.1 ≠ wAt l p.2 then 1 else if init = true ∧ f.getD p.2.toNat false = true then 4 else 0
theorem jw3 {f : List Bool} {init : Bool} {p : Int × Int} {g : List GObj} {b : Nat} (hf : f.length = m.nodes.length) (hb : g[b]? = some (.cells [LN m.nodes, LP m.inits, LP m.nexts, LI m.bads, LI m.holds, .sl true 1 (f.map B)])) :
  callL pg 106 [.ptr true b 0, andV p, B init] g = some (I (pairE m.nodes f init p), g) := by
 obtain ⟨s, n⟩ := p
 have i1 := is_eq (n := s) hb
 have i2 := is_eq (n := n) hb
 rw [jj7]
 unfold pairE wAt
 simp only
 refine ji3 (fn := q6l) (s := ⟨[(6, I (pairE m.nodes f init (s, n)))], [], g⟩) rfl rfl (q11_ ?h1) ?r1
 case r1 => simp [finish, results, q6l, resOfs, resOf, resOk, pairE, wAt]
 case h1 =>
  unfold pairE wAt
  simp only
  by_cases h1 : isNo m.nodes s
  ·rw [decide_eq_true h1] at i1
   by_cases h2 : isNo m.nodes n
   ·rw [decide_eq_true h2] at i2
    have n1 := jis h1
    have n2 := jis h2
    have z1 := h1.1
    have z2 := h2.1
    have hfr := fr_idx (f := f) (a := n) (by rw [hf]; exact h2.2)
    generalize m.nodes.getD s.toNat default = d1 at *
    generalize m.nodes.getD n.toNat default = d2 at *
    generalize f.getD n.toNat false = c at *
    rw [jik d1] at n1
    rw [jik d2] at n2
    by_cases h3 : d1.k = 3
    ·have d3 : decide (d1.k = 3) = true := decide_eq_true h3
     by_cases h4 : d1.w = d2.w
     ·rw [if_neg (by rintro (h | h | h) <;> contradiction), if_neg (fun h => h h4)]
      cases init with
      | true => cases c with
       | true => simp [q11, i1, i2, hb, z1, z2, n1, n2, d3, h4, hfr, -List.getElem?_map]
       | false => simp [q11, i1, i2, hb, z1, z2, n1, n2, d3, h4, hfr, -List.getElem?_map]
      | false => simp [q11, i1, i2, hb, z1, z2, n1, n2, d3, h4, -List.getElem?_map]
     ·rw [if_neg (by rintro (h | h | h) <;> contradiction), if_pos h4]
      simp [q11, i1, i2, hb, z1, z2, n1, n2, d3, h4, -List.getElem?_map]
    ·rw [if_pos (.inr (.inr h3))]
     simp [q11, i1, i2, hb, z1, n1, h3, -List.getElem?_map]
   ·rw [decide_eq_false h2] at i2
    rw [if_pos (.inr (.inl h2))]
    simp [q11, i1, i2]
  ·rw [decide_eq_false h1] at i1
   rw [if_pos (.inl h1)]
   simp [q11, i1]
end
end Go.Lw
end

/-! Models: pairs, marks, and the whole check (the program). -/
section
namespace Go.Lw
open Go
section
variable {m : Md} {gh : List GObj}
theorem jw4 {n : Nat} (h : n * 8 ≤ maxBytes) : callL pg 119 [.nils, I n] gh = some (.sl true 1 [], gh) := by
 have : callL pg 119 [.nils, I n] gh = libGrow 1 8 [.nils, I n] gh := rfl
 rw [this, libGrow, if_pos ⟨by omega, by simpa using h⟩]
theorem jw5 {X Y : List PV} (hX : noGs X = true) (hY : noGs Y = true) (h : (X.length + Y.length) * 8 ≤ maxBytes) : callL pg 107 [.sl false 1 [.sl false 1 X, .sl false 1 Y]] gh = some (.sl false 1 (X ++ Y), gh) := by
 have hm : maxBytes = 140737488355328 := rfl
 have w1 : IntKind.i64.wrap (X.length : Int) = X.length := ji5 (by omega) (by omega)
 have w2 : IntKind.i64.wrap ((X.length : Int) + (Y.length : Int)) = ((X.length + Y.length : Nat) : Int) := by rw [ji5 (by omega) (by omega)]; omega
 have w3 : IntKind.i64.wrap (0 + 1) = 1 := by decide
 have w5 : IntKind.i64.wrap 2 = 2 := by decide
 have n1 : ¬ ((X.length : Int) < 0) := by omega
 have hl1 : runL pg q5t ⟨[(0, .sl false 1 [.sl false 1 X, .sl false 1 Y]), (3, I 0), (9, .sl false 1 [.sl false 1 X, .sl false 1 Y]), (10, I 2), (11, I 0)], [], gh⟩ =
   some (.normal, ⟨[(0, .sl false 1 [.sl false 1 X, .sl false 1 Y]), (3, I ((X.length + Y.length : Nat) : Int))], [], gh⟩) := by
  refine ji4 (s1 := ⟨[(0, .sl false 1 [.sl false 1 X, .sl false 1 Y]), (3, I X.length), (9, .sl false 1 [.sl false 1 X, .sl false 1 Y]), (10, I 2), (11, I 1)], [], gh⟩) (q4q_ ?_) ?_
  ·simp [q4q, w1, n1]; exact w3
  refine ji4 (s1 := ⟨[(0, .sl false 1 [.sl false 1 X, .sl false 1 Y]), (3, I ((X.length + Y.length : Nat) : Int)), (9, .sl false 1 [.sl false 1 X, .sl false 1 Y]), (10, I 2), (11, I 2)], [], gh⟩) (q4q_ ?_) ?_
  ·simp only [q4q]
   have n2' : decide ((X.length : Int) + (Y.length : Int) < 0) = false := decide_eq_false (by omega)
   simp [w2, n2']
   exact w5
  refine (ji7 (s1 := ?s1) (q4q_ ?h1)).trans ?r1
  case h1 => simp [q4q]; rfl
  case r1 => simp [keep, stays]
 have hl2 : runL pg q5u ⟨[(6, .sl true 1 []), (25, .sl false 1 [.sl false 1 X, .sl false 1 Y]), (26, I 2), (27, I 0)], [], gh⟩ = some (.normal, ⟨[(6, .sl true 1 (X ++ Y))], [], gh⟩) := by
  refine ji4 (s1 := ⟨[(6, .sl true 1 X), (25, .sl false 1 [.sl false 1 X, .sl false 1 Y]), (26, I 2), (27, I 1)], [], gh⟩) (q4r_ ?_) ?_
  ·have : X.length * 8 ≤ maxBytes := by omega
   simp [q4r, this]; exact w3
  refine ji4 (s1 := ⟨[(6, .sl true 1 (X ++ Y)), (25, .sl false 1 [.sl false 1 X, .sl false 1 Y]), (26, I 2), (27, I 2)], [], gh⟩) (q4r_ ?_) ?_
  ·simp [q4r, h]; exact w5
  refine (ji7 (s1 := ?s2) (q4r_ ?h2)).trans ?r2
  case h2 => simp [q4r]; rfl
  case r2 => simp [keep, stays]
 have hg := jw4 (gh := gh) h
 have k2 := qeg_ (pg := pg) (gh := gh) (v6 := .sl true 1 (X ++ Y)) (e := .ret) (s := ⟨[(2, .sl false 1 (X ++ Y))], [], gh⟩) (by simp [qeg])
 have k1 := qeh_ (pg := pg) (gh := gh) (v0 := .sl false 1 [.sl false 1 X, .sl false 1 Y]) (x3 := ((X.length + Y.length : Nat) : Int)) (e := .ret) (s := ⟨[(2, .sl false 1 (X ++ Y))], [], gh⟩) (by
  generalize X.length + Y.length = n at *
  simp [qeh, hg, hl2, k2])
 have hn : noGs (X ++ Y) = true := by
  have : ∀ (A B : List PV), noGs A = true → noGs B = true → noGs (A ++ B) = true := by
   intro A B
   induction A with
   | nil => intro _ h; exact h
   | cons a A ih =>
    intro h1 h2
    simp only [jp2, Bool.and_eq_true] at h1
    simp [h1.1, ih h1.2 h2]
  exact this X Y hX hY
 refine ji3 (fn := q5x) (s := ⟨[(2, .sl false 1 (X ++ Y))], [], gh⟩) rfl rfl (qei_ ?h1) ?r1
 case h1 =>
  generalize X.length + Y.length = n at *
  simp [qei, hl1, k1]
 case r1 => simp [finish, results, q5x, resOk, hn, get]
def pairsE (l : List Nd) (f : List Bool) (init : Bool) : List (Int × Int) → Int
 | [] => 0
 | p :: r => if pairE l f init p = 0 then pairsE l f init r else pairE l f init p
theorem jmk {f : List Bool} : (ckG gh m f)[gh.length]? = some (.cells [LN m.nodes, LP m.inits, LP m.nexts, LI m.bads, LI m.holds, .sl true 1 (f.map B)]) := by simp [ckG]
abbrev twoL (m : Md) : PV := .sl true 1 [LP m.inits, LP m.nexts]
def pr2St (m : Md) (f : List Bool) (ps : List (Int × Int)) (k j : Nat) (gh : List GObj) : St :=
 ⟨[(0, .ptr true gh.length 0), (3, I (k : Int)), (23, twoL m), (24, I 2), (25, I (k : Int)), (30, LP ps), (31, I ps.length), (32, I (j : Int))], [], ckG gh m f⟩
theorem jml {f : List Bool} {ps : List (Int × Int)} {k : Nat} (hf : f.length = m.nodes.length) (hs : Sz ps.length) : ∀ n j, j + n = ps.length →
  runL pg q67 (pr2St m f ps k j gh) = if pairsE m.nodes f (decide (k = 0)) (ps.drop j) = 0 then some (.normal, ⟨[(0, .ptr true gh.length 0), (23, twoL m), (24, I 2), (25, I (k : Int))], [], ckG gh m f⟩)
   else some (.ret, ⟨[(2, I (pairsE m.nodes f (decide (k = 0)) (ps.drop j)))], [], ckG gh m f⟩)
 | 0, j, h => by
  rw [List.drop_eq_nil_of_le (by omega), pairsE, if_pos rfl]
  have hlt : ¬ (j : Int) < (ps.length : Int) := by omega
  refine (ji7 (s1 := ?s1) (q4m_ ?h1)).trans ?r1
  case h1 => simp only [q4m, decide_eq_false hlt, jim]; rfl
  case r1 => simp [keep, stays]
 | n + 1, j, h => by
  have hlt : j < ps.length := by omega
  have hltI : (j : Int) < (ps.length : Int) := by omega
  have e2 : IntKind.i64.wrap ((j : Int) + 1) = ((j + 1 : Nat) : Int) := jip (by simp only [Sz] at hs ⊢; omega)
  have hx : (ps.map andV)[j]? = some (andV ps[j]) := by simp [List.getElem?_eq_getElem hlt]
  rw [jj7] at hx
  have hp := jw3 (m := m) (f := f) (init := decide (k = 0)) (p := ps[j]) hf (jmk (gh := gh))
  rw [jj7] at hp
  rw [List.drop_eq_getElem_cons hlt, pairsE]
  generalize ps[j] = p at *
  obtain ⟨a, b⟩ := p
  simp only at hx hp
  have hk0 : ((k : Int) == 0) = decide (k = 0) := by
   rw [beqI]; exact decide_eq_decide.2 (by omega)
  obtain ⟨ini, hini⟩ : ∃ ini, decide (k = 0) = ini := ⟨_, rfl⟩
  rw [hini] at hk0 hp ⊢
  by_cases he : pairE m.nodes f ini (a, b) = 0
  ·rw [if_pos he]
   rw [he] at hp
   refine ji4 (s1 := pr2St m f ps k (j + 1) gh) (q4m_ ?_) ?_
   ·unfold pr2St
    generalize ckG gh m f = g0 at *
    simp only [q4m, hk0]
    simp [hltI, hx, hp, e2, -List.getElem?_map]
   ·rw [← hini]
    exact jml hf hs n (j + 1) (by omega)
  ·rw [if_neg he, if_neg he]
   refine lp_ret (q4m_ ?_)
   generalize ckG gh m f = g0 at *
   simp only [q4m, hk0]
   simp [hltI, hx, hp, he, -List.getElem?_map]
end
end Go.Lw
end

/-! Models: pairs that name a state twice, and marks (the program). -/
section
namespace Go.Lw
open Go
def mapB (l : List Int) : List (PV × PV) := l.map fun a => (I a, B true)
def insL (l : List Int) (k : Int) : List Int := if k ∈ l then l else l ++ [k]
theorem jw6 (l : List Int) (k : Int) : mset 0 (mapB l) (I k) (B true) = some (mapB (insL l k)) := by
 induction l with
 | nil => rfl
 | cons a l ih =>
  by_cases h : k = a
  ·simp [mapB, insL, mset, sameKey, h]
  ·have ih' : mset 0 (l.map fun a => (I a, B true)) (I k) (B true) = some (mapB (insL l k)) := ih
   by_cases h2 : k ∈ l
   ·simp [mapB, insL, mset, sameKey, beq_false_of_ne h, h, h2] at ih' ⊢
    exact ih'
   ·simp [mapB, insL, mset, sameKey, beq_false_of_ne h, h, h2] at ih' ⊢
    exact ih'
def insA (l : List Int) (xs : List Int) : List Int := xs.foldl insL l
theorem jw7 (l : List Int) (k : Int) : (insL l k).length = if k ∈ l then l.length else l.length + 1 := by
 unfold insL; split <;> simp
theorem jw8 {l : List Int} {k a : Int} : a ∈ insL l k ↔ a ∈ l ∨ a = k := by
 unfold insL; split
 ·rename_i h
  exact ⟨.inl, fun h2 => h2.elim id fun e => e ▸ h⟩
 ·simp
theorem jpm : ∀ (xs l : List Int), (insA l xs).length ≤ l.length + xs.length ∧ ((insA l xs).length = l.length + xs.length ↔ (xs.Nodup ∧ ∀ a ∈ xs, a ∉ l))
 | [], l => by simp [insA]
 | x :: xs, l => by
  have ih := jpm xs (insL l x)
  have e : insA l (x :: xs) = insA (insL l x) xs := rfl
  rw [e]
  have hl := jw7 l x
  by_cases h : x ∈ l
  ·rw [if_pos h] at hl
   rw [hl] at ih
   refine ⟨by simp; omega, ⟨fun he => by simp at he; omega, fun ⟨_, h2⟩ => absurd h (h2 x (by simp))⟩⟩
  ·rw [if_neg h] at hl
   rw [hl] at ih
   refine ⟨by simp; omega, ?_⟩
   have e2 : (x :: xs).length = xs.length + 1 := rfl
   rw [e2, show l.length + (xs.length + 1) = l.length + 1 + xs.length by omega, ih.2]
   simp only [List.nodup_cons, List.mem_cons, jw8]
   constructor
   ·rintro ⟨h1, h2⟩
    refine ⟨⟨fun hx => (h2 x hx) (.inr rfl), h1⟩, ?_⟩
    rintro a (rfl | ha)
    ·exact h
    ·exact fun hal => h2 a ha (.inl hal)
   ·rintro ⟨⟨h1, h2⟩, h3⟩
    refine ⟨h2, fun a ha => ?_⟩
    rintro (h4 | rfl)
    ·exact h3 a (.inr ha) h4
    ·exact h1 ha
def twice (ps : List (Int × Int)) : Prop := ¬ (ps.map (·.1)).Nodup
instance (ps : List (Int × Int)) : Decidable (twice ps) := by unfold twice; exact inferInstance
theorem jpn (ps : List (Int × Int)) : ((insA [] (ps.map (·.1))).length < ps.length) ↔ twice ps := by
 have := jpm (ps.map (·.1)) []
 simp at this
 unfold twice
 rw [← this.2]
 omega
section
variable {m : Md} {gh : List GObj}
theorem jpo {ps : List (Int × Int)} {k : Nat} (hs : Sz ps.length) : ∀ n j (acc : List Int), j + n = ps.length →
  runL pg q69 ⟨[(9, LP ps), (10, .mp gh.length), (56, twoL m), (57, I 2), (58, I (k : Int)), (63, LP ps), (64, I ps.length), (65, I (j : Int))], [], gh ++ [.map (mapB acc)]⟩ =
   some (.normal, ⟨[(9, LP ps), (10, .mp gh.length), (56, twoL m), (57, I 2), (58, I (k : Int))], [], gh ++ [.map (mapB (insA acc ((ps.drop j).map (·.1))))]⟩)
 | 0, j, acc, h => by
  rw [List.drop_eq_nil_of_le (by omega)]
  have hlt : ¬ (j : Int) < (ps.length : Int) := by omega
  refine (ji7 (s1 := ?s1) (q91_ ?h1)).trans ?r1
  case h1 => simp only [q91, decide_eq_false hlt, jim]; rfl
  case r1 => simp [keep, stays, insA]
 | n + 1, j, acc, h => by
  have hlt : j < ps.length := by omega
  have hltI : (j : Int) < (ps.length : Int) := by omega
  have e2 : IntKind.i64.wrap ((j : Int) + 1) = ((j + 1 : Nat) : Int) := jip (by simp only [Sz] at hs ⊢; omega)
  have hx : (ps.map andV)[j]? = some (andV ps[j]) := by simp [List.getElem?_eq_getElem hlt]
  rw [jj7] at hx
  rw [List.drop_eq_getElem_cons hlt]
  generalize ps[j] = p at *
  obtain ⟨a, b⟩ := p
  simp only [List.map_cons] at hx ⊢
  have hin : insA acc (a :: (ps.drop (j + 1)).map (·.1)) = insA (insL acc a) ((ps.drop (j + 1)).map (·.1)) := rfl
  rw [hin]
  have hm := jw6 acc a
  refine ji4 (s1 := ⟨[(9, LP ps), (10, .mp gh.length), (56, twoL m), (57, I 2), (58, I (k : Int)), (63, LP ps), (64, I ps.length), (65, I ((j + 1 : Nat) : Int))], [], gh ++ [GObj.map (mapB (insL acc a))]⟩) (q91_ ?_) (jpo (k := k) hs n (j + 1) (insL acc a) (by omega))
  simp [q91, hltI, hx, e2, hm, -List.getElem?_map]
theorem jpp {ps : List (Int × Int)} {k : Nat} (hk : (k = 0 ∧ ps = m.inits) ∨ (k = 1 ∧ ps = m.nexts)) (hs : Sz ps.length) :
  runL pg q6b ⟨[(56, twoL m), (57, I 2), (58, I (k : Int))], [], gh⟩ =
   if twice ps then some (.ret, ⟨[(2, I 6)], [], gh ++ [.map (mapB (insA [] (ps.map (·.1))))]⟩)
   else some (.normal, ⟨[(56, twoL m), (57, I 2), (58, I ((k + 1 : Nat) : Int))], [], gh ++ [.map (mapB (insA [] (ps.map (·.1))))]⟩) := by
 have h4 := jpo (m := m) (gh := gh) (k := k) hs ps.length 0 [] (by omega)
 rw [List.drop_zero] at h4
 simp only [Int.natCast_zero] at h4
 have hml : ∀ l, (mapB l).length = l.length := fun l => by simp [mapB]
 have hlt : decide (((insA [] (ps.map (·.1))).length : Int) < (ps.length : Int)) = decide (twice ps) := by
  have := jpn ps
  exact decide_eq_decide.2 (by rw [← this]; omega)
 have hltN : decide ((insA [] (ps.map (·.1))).length < ps.length) = decide (twice ps) := decide_eq_decide.2 (jpn ps)
 have hmb : mapB [] = [] := rfl
 rw [hmb] at h4
 have e2 : IntKind.i64.wrap ((k : Int) + 1) = ((k + 1 : Nat) : Int) := by rcases hk with ⟨rfl, _⟩ | ⟨rfl, _⟩ <;> decide
 have hix : ([LP m.inits, LP m.nexts] : List PV)[k]? = some (LP ps) := by rcases hk with ⟨rfl, rfl⟩ | ⟨rfl, rfl⟩ <;> rfl
 have hk2 : (k : Int) < 2 := by omega
 generalize hA : insA [] (ps.map (·.1)) = A at *
 have k3 := qec_ (pg := pg) (gh := gh ++ [.map (mapB A)]) (v9 := LP ps) (v10 := .mp gh.length) (v56 := twoL m) (x57 := 2) (x58 := k)
  (e := if twice ps then .ret else .normal) (s := if twice ps then ⟨[(2, I 6)], [], gh ++ [.map (mapB A)]⟩ else ⟨[(56, twoL m), (57, I 2), (58, I (k : Int)), (77, B false)], [], gh ++ [.map (mapB A)]⟩)
  (by
   simp [qec, hml, hltN]
   by_cases ht : twice ps <;> simp [ht])
 have k4 := qed_ (pg := pg) (gh := gh ++ [.map (mapB A)]) (v56 := twoL m) (x57 := 2) (x58 := k) (b77 := false) (e := .normal) (s := ⟨[(56, twoL m), (57, I 2), (58, I ((k + 1 : Nat) : Int))], [], gh ++ [.map (mapB A)]⟩) (by simp [qed, e2])
 by_cases ht : twice ps
 ·rw [if_pos ht] at k3 ⊢
  rw [if_pos ht] at k3
  refine q4n_ ?_
  simp [q4n, hk2, hix, h4, k3]
 ·rw [if_neg ht] at k3 ⊢
  rw [if_neg ht] at k3
  refine q4n_ ?_
  simp [q4n, hk2, hix, h4, k3, k4]
end
end Go.Lw
end

/-! Models: all pairs, marks, and the whole check (the program). -/
section
namespace Go.Lw
open Go
def pairsAll (m : Md) (f : List Bool) : Int :=
 if pairsE m.nodes f true m.inits ≠ 0 then pairsE m.nodes f true m.inits else if pairsE m.nodes f false m.nexts ≠ 0 then pairsE m.nodes f false m.nexts
 else if twice m.inits ∨ twice m.nexts then 6 else 0
section
variable {m : Md} {gh : List GObj}
theorem jw9 {f : List Bool} (hf : f.length = m.nodes.length) (h1 : Sz m.inits.length) (h2 : Sz m.nexts.length) :
  runL pg q68 ⟨[(0, .ptr true gh.length 0), (23, twoL m), (24, I 2), (25, I 0)], [], ckG gh m f⟩ =
   if pairsE m.nodes f true m.inits ≠ 0 then some (.ret, ⟨[(2, I (pairsE m.nodes f true m.inits))], [], ckG gh m f⟩)
   else if pairsE m.nodes f false m.nexts ≠ 0 then some (.ret, ⟨[(2, I (pairsE m.nodes f false m.nexts))], [], ckG gh m f⟩)
   else some (.normal, ⟨[(0, .ptr true gh.length 0)], [], ckG gh m f⟩) := by
 have l1 := jml (gh := gh) (m := m) (ps := m.inits) (k := 0) hf h1 m.inits.length 0 (by omega)
 have l2 := jml (gh := gh) (m := m) (ps := m.nexts) (k := 1) hf h2 m.nexts.length 0 (by omega)
 rw [List.drop_zero] at l1 l2
 unfold pr2St at l1 l2
 simp only [Int.natCast_zero, decide_true] at l1 l2
 rw [show decide (1 = 0) = false from rfl] at l2
 simp only [Int.natCast_one] at l1 l2
 have w1 : IntKind.i64.wrap (0 + 1) = 1 := by decide
 have w2 : IntKind.i64.wrap (1 + 1) = 2 := by decide
 have k1 : ∀ x, runL pg q3p ⟨[(0, .ptr true gh.length 0), (23, twoL m), (24, I 2), (25, I x)], [], ckG gh m f⟩ = some (.normal, ⟨[(0, .ptr true gh.length 0), (23, twoL m), (24, I 2), (25, I (IntKind.i64.wrap (x + 1)))], [], ckG gh m f⟩) := fun x => by
  refine qeb_ ?_
  simp [qeb]
 generalize ckG gh m f = g0 at *
 by_cases e1 : pairsE m.nodes f true m.inits = 0
 ·rw [if_pos e1] at l1
  rw [if_neg (fun h => h e1)]
  have k10 := k1 0
  rw [w1] at k10
  refine ji4 (s1 := ⟨[(0, .ptr true gh.length 0), (23, twoL m), (24, I 2), (25, I 1)], [], g0⟩) (q1r_ (by simp [q1r, l1, k10])) ?_
  by_cases e2 : pairsE m.nodes f false m.nexts = 0
  ·rw [if_pos e2] at l2
   rw [if_neg (fun h => h e2)]
   have k11 := k1 1
   rw [w2] at k11
   refine ji4 (s1 := ⟨[(0, .ptr true gh.length 0), (23, twoL m), (24, I 2), (25, I 2)], [], g0⟩) (q1r_ (by simp [q1r, l2, k11])) ?_
   refine (ji7 (s1 := ?s1) (q1r_ ?h1)).trans ?r1
   case h1 => simp [q1r]; rfl
   case r1 => simp [keep, stays]
  ·rw [if_neg e2] at l2
   rw [if_pos e2]
   refine lp_ret (q1r_ ?_)
   simp [q1r, l2]
 ·rw [if_neg e1] at l1
  rw [if_pos e1]
  refine lp_ret (q1r_ ?_)
  simp [q1r, l1]
theorem jwa (h1 : Sz m.inits.length) (h2 : Sz m.nexts.length) : ∃ g2,
  runL pg q6c ⟨[(56, twoL m), (57, I 2), (58, I 0)], [], gh⟩ =
   if twice m.inits ∨ twice m.nexts then some (.ret, ⟨[(2, I 6)], [], gh ++ g2⟩) else some (.normal, ⟨[], [], gh ++ g2⟩) := by
 have b1 := jpp (gh := gh) (m := m) (ps := m.inits) (k := 0) (.inl ⟨rfl, rfl⟩) h1
 have b2 := fun g => jpp (gh := g) (m := m) (ps := m.nexts) (k := 1) (.inr ⟨rfl, rfl⟩) h2
 simp only [Int.natCast_zero, Int.natCast_one, Nat.zero_add, show ((1 + 1 : Nat) : Int) = 2 from rfl] at b1 b2
 generalize insA [] (m.inits.map (·.1)) = A at *
 generalize insA [] (m.nexts.map (·.1)) = B at *
 by_cases t1 : twice m.inits
 ·rw [if_pos t1] at b1
  exact ⟨_, by rw [if_pos (.inl t1)]; exact lp_ret b1⟩
 ·rw [if_neg t1] at b1
  have b2 := b2 (gh ++ [.map (mapB A)])
  by_cases t2 : twice m.nexts
  ·rw [if_pos t2] at b2
   refine ⟨[.map (mapB A)] ++ [.map (mapB B)], ?_⟩
   rw [if_pos (.inr t2), ← List.append_assoc]
   exact ji4 b1 (lp_ret b2)
  ·rw [if_neg t2] at b2
   refine ⟨[.map (mapB A)] ++ [.map (mapB B)], ?_⟩
   rw [if_neg (by rintro (h | h) <;> contradiction), ← List.append_assoc]
   refine ji4 b1 (ji4 b2 ((ji7 (s1 := ?s1) (q4n_ ?h1)).trans ?r1))
   case h1 => simp [q4n]; rfl
   case r1 => simp [keep]
theorem jwb {f : List Bool} (hf : f.length = m.nodes.length) (h1 : Sz m.inits.length) (h2 : Sz m.nexts.length) :
  callL pg 79 [.ptr true gh.length 0] (ckG gh m f) = some (I (pairsAll m f), ckG gh m f) := by
 have l1 := jw9 (gh := gh) hf h1 h2
 obtain ⟨g2, l3⟩ := jwa (m := m) (gh := ckG gh m f) h1 h2
 have hg := jmk (gh := gh) (m := m) (f := f)
 unfold pairsAll
 have k5 : ∀ g, runL pg q3r ⟨[], [], g⟩ = some (.ret, ⟨[(2, I 0)], [], g⟩) := fun g => qhh_ rfl
 have k2 : runL pg q3s ⟨[(0, .ptr true gh.length 0)], [], ckG gh m f⟩ = some (.ret, ⟨[(2, I (if twice m.inits ∨ twice m.nexts then 6 else 0))], [], ckG gh m f ++ g2⟩) := by
  refine q92_ ?_
  generalize ckG gh m f = g0 at *
  have k5 := k5 (g0 ++ g2)
  by_cases t : twice m.inits ∨ twice m.nexts
  ·rw [if_pos t] at l3
   simp [q92, hg, l3, t]
  ·rw [if_neg t] at l3
   simp [q92, hg, l3, t, k5]
 generalize (if twice m.inits ∨ twice m.nexts then (6 : Int) else 0) = r at *
 generalize ckG gh m f = g0 at *
 by_cases e1 : pairsE m.nodes f true m.inits = 0
 ·rw [if_neg (fun h => h e1)] at l1 ⊢
  by_cases e2 : pairsE m.nodes f false m.nexts = 0
  ·rw [if_neg (fun h => h e2)] at l1 ⊢
   refine ji3 (fn := q16) (s := ?s1) rfl rfl (q4o_ ?h1) ?r1
   case h1 => simp [q4o, hg, l1, k2]; rfl
   case r1 => simp [finish, results, q16, resOfs, resOf, resOk]
  ·rw [if_pos e2] at l1 ⊢
   refine ji3 (fn := q16) (s := ?s2) rfl rfl (q4o_ ?h2) ?r2
   case h2 => simp [q4o, hg, l1]; rfl
   case r2 => simp [finish, results, q16, resOfs, resOf, resOk]
 ·rw [if_pos e1] at l1 ⊢
  refine ji3 (fn := q16) (s := ?s3) rfl rfl (q4o_ ?h3) ?r3
  case h3 => simp [q4o, hg, l1]; rfl
  case r3 => simp [finish, results, q16, resOfs, resOf, resOk]
def marksE (m : Md) : Int :=
 if m.nexts.length < (kindL m.nodes 3).length then 5 else if (m.bads ++ m.holds).any (fun a => !decide (isNo m.nodes a)) then 5
 else if (m.bads ++ m.holds).any (fun a => !decide (wAt m.nodes a = 1)) then 1 else 0
theorem jwc {f : List Bool} {n : Int} {g : List GObj} {b c : Nat} (hb : g[b]? = some (.cells [LN m.nodes, LP m.inits, LP m.nexts, LI m.bads, LI m.holds, .sl true 1 (f.map B)])) (hc : g[c]? = some (.cells [.ptr true b 0])) :
  callL pg 108 [I n, .ptr true c 0] g = some (B (!decide (isNo m.nodes n)), g) := by
 have i1 := is_eq (n := n) hb
 generalize decide (isNo m.nodes n) = d at *
 refine ji3 (fn := q6m) (s := ?s1) rfl rfl (qee_ ?h1) ?r1
 case h1 => simp [qee, hc, i1]; rfl
 case r1 => simp [finish, results, q6m, resOfs, resOf, resOk]
theorem jwd {f : List Bool} {n : Int} {g : List GObj} {b c : Nat} (hb : g[b]? = some (.cells [LN m.nodes, LP m.inits, LP m.nexts, LI m.bads, LI m.holds, .sl true 1 (f.map B)])) (hc : g[c]? = some (.cells [.ptr true b 0])) (hn : isNo m.nodes n) :
  callL pg 109 [I n, .ptr true c 0] g = some (B (!decide (wAt m.nodes n = 1)), g) := by
 have n1 := jis hn
 have h0 := hn.1
 unfold wAt
 generalize m.nodes.getD n.toNat default = d1 at *
 rw [jik d1] at n1
 refine ji3 (fn := q6n) (s := ?s1) rfl rfl (qef_ ?h1) ?r1
 case h1 => simp [qef, hb, hc, h0, n1, -List.getElem?_map]; rfl
 case r1 => simp [finish, results, q6n, resOfs, resOf, resOk]
theorem jwe {f : List Bool} (hl : m.nodes.length ≤ 1000) (h1 : m.bads.length ≤ 100) (h2 : m.holds.length ≤ 100) :
  callL pg 80 [.ptr true gh.length 0] (ckG gh m f) = some (I (marksE m), ckG gh m f) := by
 have hg := jmk (gh := gh) (m := m) (f := f)
 have hlen : (ckG gh m f).length = gh.length + 1 := by simp [ckG]
 generalize ckG gh m f = g0 at *
 obtain ⟨g1, hg1⟩ : ∃ g1, g1 = g0 ++ [GObj.cells [.ptr true gh.length 0]] := ⟨_, rfl⟩
 have htk : g1.take g0.length = g0 := by rw [hg1]; simp
 have hb : g1[gh.length]? = some (.cells [LN m.nodes, LP m.inits, LP m.nexts, LI m.bads, LI m.holds, .sl true 1 (f.map B)]) := by
  rw [hg1, List.getElem?_append_left (by omega)]; exact hg
 have hc : g1[g0.length]? = some (.cells [.ptr true gh.length 0]) := by rw [hg1]; simp
 have ho := Ofk_eq (m := m) (gh := g1) (kind := 3) hl
 rw [ji9] at ho
 have hmx : ((m.bads.map I).length + (m.holds.map I).length) * 8 ≤ maxBytes := by
  have : maxBytes = 140737488355328 := rfl
  simp; omega
 have hsz : Sz (m.bads ++ m.holds).length := by simp only [Sz, List.length_append]; omega
 have hcc := jw5 (gh := g1) (X := m.bads.map I) (Y := m.holds.map I) (noGs_ints _) (noGs_ints _) hmx
 rw [← List.map_append] at hcc
 have c1 := jpe (xs := m.bads ++ m.holds) (c := 108) (caps := [.ptr true g0.length 0]) (gh := g1) (fun x _ => jwc (n := x) hb hc) rfl hsz
 have c2 : (∀ a ∈ m.bads ++ m.holds, isNo m.nodes a) → _ := fun hn => jpe (xs := m.bads ++ m.holds) (c := 109) (caps := [.ptr true g0.length 0]) (gh := g1) (fun x hx => jwd hb hc (hn x hx)) rfl hsz
 have hnb : (m.bads ++ m.holds).any (fun a => !decide (isNo m.nodes a)) = false → ∀ a ∈ m.bads ++ m.holds, isNo m.nodes a := fun h a ha => by
  have := List.any_eq_false.1 h a ha
  simpa using this
 unfold marksE
 generalize (m.bads ++ m.holds).any (fun a => !decide (isNo m.nodes a)) = p1 at *
 generalize (m.bads ++ m.holds).any (fun a => !decide (wAt m.nodes a = 1)) = p2 at *
 generalize hK : kindL m.nodes 3 = K at *
 have hKl : (K.map I).length = K.length := by simp
 have hXl : (m.nexts.map andV).length = m.nexts.length := by simp
 simp only [LI] at *
 generalize (m.bads ++ m.holds).map I = M at *
 generalize m.bads.map I = M1 at *
 generalize m.holds.map I = M2 at *
 generalize K.map I = K' at *
 generalize m.nexts.map andV = X' at *
 by_cases e1 : m.nexts.length < K.length
 ·rw [if_pos e1]
  refine ji3 (fn := qn) (s := ⟨[(2, I 5)], [], g1⟩) rfl rfl (q33_ ?h1) ?r1
  case h1 => simp only [q33]; rw [← hg1]; simp [hb, hc, ho, hKl, e1]
  case r1 => simp [finish, results, qn, resOfs, resOf, resOk, htk]
 ·rw [if_neg e1]
  cases p1 with
  | true =>
   rw [if_pos rfl]
   refine ji3 (fn := qn) (s := ⟨[(2, I 5)], [], g1⟩) rfl rfl (q33_ ?h2) ?r2
   case h2 => simp only [q33]; rw [← hg1]; simp [hb, hc, ho, hKl, e1, hcc, c1]
   case r2 => simp [finish, results, qn, resOfs, resOf, resOk, htk]
  | false =>
   rw [if_neg (by simp)]
   have c2 := c2 (hnb rfl)
   cases p2 with
   | true =>
    rw [if_pos rfl]
    refine ji3 (fn := qn) (s := ⟨[(2, I 1)], [], g1⟩) rfl rfl (q33_ ?h3) ?r3
    case h3 => simp only [q33]; rw [← hg1]; simp [hb, hc, ho, hKl, e1, hcc, c1, c2]
    case r3 => simp [finish, results, qn, resOfs, resOf, resOk, htk]
   | false =>
    rw [if_neg (by simp)]
    refine ji3 (fn := qn) (s := ⟨[(2, I 0)], [], g1⟩) rfl rfl (q33_ ?h4) ?r4
    case h4 => simp only [q33]; rw [← hg1]; simp [hb, hc, ho, hKl, e1, hcc, c1, c2]
    case r4 => simp [finish, results, qn, resOfs, resOf, resOk, htk]
def nodesE (L : List Nd) : Nat → List Nd → Int
 | _, [] => 0
 | i, x :: l => if nodeE L i x = 0 then nodesE L (i + 1) l else nodeE L i x
def checkE (m : Md) : Int :=
 if m.nodes.length > 80 ∨ m.bads.length > 8 ∨ m.holds.length > 8 then 2
 else if nodesE m.nodes 0 m.nodes ≠ 0 then nodesE m.nodes 0 m.nodes
 else if bitsK m.nodes 2 > 6 ∨ bitsK m.nodes 3 > 10 then 2
 else if pairsAll m (hangF [] m.nodes) ≠ 0 then pairsAll m (hangF [] m.nodes) else marksE m
theorem jl0 {L : List Nd} : ∀ {i : Nat} {l : List Nd}, nodesE L i l = 0 → ∀ j x, l[j]? = some x → nodeE L ((i + j : Nat) : Int) x = 0
 | i, y :: l, h, 0, x, hx => by
  rw [nodesE] at h
  simp at hx
  subst hx
  split at h
  ·assumption
  ·contradiction
 | i, y :: l, h, j + 1, x, hx => by
  rw [nodesE] at h
  split at h
  ·have := jl0 h j x (by simpa using hx)
   rw [show i + (j + 1) = i + 1 + j by omega]; exact this
  ·contradiction
theorem jmm {L : List Nd} (h : nodesE L 0 L = 0) : Ahead L := by
 intro i x hx a ha
 have h0 := jl0 h i x hx
 rw [Nat.zero_add] at h0
 unfold nodeE at h0
 split at h0
 ·omega
 rename_i hk
 split at h0
 ·omega
 split at h0
 ·rename_i hk3
  unfold argsL at ha
  rw [jvr ⟨by omega, hk3⟩] at ha
  simp at ha
 split at h0
 ·omega
 rename_i hb
 unfold badArgs badJ at hb
 simp only [not_or] at hb
 obtain ⟨b0, b1, b2⟩ := hb
 unfold argsL at ha
 rcases jjg x.k with ht | ht | ht | ht <;> rw [ht] at ha b0 b1 b2 <;> simp at ha b0 b1 b2
 ·subst ha; exact ⟨by omega, by omega⟩
 ·rcases ha with rfl | rfl <;> exact ⟨by omega, by omega⟩
 ·rcases ha with rfl | rfl | rfl <;> exact ⟨by omega, by omega⟩
theorem jpq (hl : m.nodes.length ≤ 1000) : ∀ k i, i + k = m.nodes.length →
  runL pg q60 ⟨[(1, .ptr false 0 0), (27, I m.nodes.length), (28, I (i : Int))], [[LN m.nodes, LP m.inits, LP m.nexts, LI m.bads, LI m.holds]], gh⟩ =
   if nodesE m.nodes i (m.nodes.drop i) = 0 then some (.normal, ⟨[(1, .ptr false 0 0)], [[LN m.nodes, LP m.inits, LP m.nexts, LI m.bads, LI m.holds]], gh⟩)
   else some (.ret, ⟨[(2, I (nodesE m.nodes i (m.nodes.drop i)))], [], gh⟩)
 | 0, i, h => by
  rw [List.drop_eq_nil_of_le (by omega), nodesE, if_pos rfl]
  have hlt : ¬ (i : Int) < (m.nodes.length : Int) := by omega
  refine (ji7 (s1 := ?s1) (q4p_ ?h1)).trans ?r1
  case h1 => simp only [q4p, decide_eq_false hlt, jim]; rfl
  case r1 => simp [keep, stays]
 | k + 1, i, h => by
  have hlt : i < m.nodes.length := by omega
  have hltI : (i : Int) < (m.nodes.length : Int) := by omega
  have e2 : IntKind.i64.wrap ((i : Int) + 1) = ((i + 1 : Nat) : Int) := by rw [ji5 (by omega) (by omega)]; omega
  have hn := jvw (l := m.nodes) (gh := gh) (idx := i) (List.getElem?_eq_getElem hlt)
  rw [List.drop_eq_getElem_cons hlt, nodesE]
  generalize nodeE m.nodes (i : Int) m.nodes[i] = r at *
  by_cases he : r = 0
  ·rw [if_pos he]
   refine ji4 (s1 := ⟨[(1, .ptr false 0 0), (27, I m.nodes.length), (28, I ((i + 1 : Nat) : Int))], [[LN m.nodes, LP m.inits, LP m.nexts, LI m.bads, LI m.holds]], gh⟩) (q4p_ ?_) (jpq hl k (i + 1) (by omega))
   simp [q4p, hltI, hn, he, e2]
  ·rw [if_neg he, if_neg he]
   refine lp_ret (q4p_ ?_)
   simp [q4p, hltI, hn, he]
theorem jwf (h1 : Sz m.inits.length) (h2 : Sz m.nexts.length) : callL pg 38 [modelV m] gh = some (I (checkE m), gh) := by
 unfold checkE
 have hNl : (m.nodes.map nodeV).length = m.nodes.length := by simp
 have hBl : (m.bads.map I).length = m.bads.length := by simp
 have hHl : (m.holds.map I).length = m.holds.length := by simp
 rw [ji9]
 by_cases c1 : m.nodes.length > 80 ∨ m.bads.length > 8 ∨ m.holds.length > 8
 ·rw [if_pos c1]
  refine ji3 (fn := qf) (s := ⟨[(2, I 2)], [], gh⟩) rfl rfl (q12_ ?h1) ?r1
  case r1 => simp [finish, results, qf, resOfs, resOf, resOk]
  case h1 =>
   by_cases d1 : (80 : Int) < (m.nodes.length : Int)
   ·simp [q12, d1]
   ·by_cases d2 : (8 : Int) < (m.bads.length : Int)
    ·simp [q12, d1, d2]
    ·have d3 : (8 : Int) < (m.holds.length : Int) := by omega
     simp [q12, d1, d2, d3]
 ·rw [if_neg c1]
  have d1 : ¬ (80 : Int) < (m.nodes.length : Int) := by omega
  have d2 : ¬ (8 : Int) < (m.bads.length : Int) := by omega
  have d3 : ¬ (8 : Int) < (m.holds.length : Int) := by omega
  have hl := jpq (m := m) (gh := gh) (by omega) m.nodes.length 0 (by omega)
  rw [List.drop_zero] at hl
  simp only [Int.natCast_zero] at hl
  by_cases hn : nodesE m.nodes 0 m.nodes = 0
  ·rw [if_neg (fun h => h hn)]
   rw [if_pos hn] at hl
   have hb := jw1 (m := m) (gh := gh) (by omega)
   rw [ji9] at hb
   have hlen := jw2 (m := m) (gh := gh) (jmm hn) (by omega)
   have hf : (hangF [] m.nodes).length = m.nodes.length := by simpa using jmj [] m.nodes
   have hp := jwb (gh := gh) hf h1 h2
   have hm := jwe (m := m) (gh := gh) (f := hangF [] m.nodes) (by omega) (by omega) (by omega)
   have htk : (ckG gh m (hangF [] m.nodes)).take gh.length = gh := by simp [ckG]
   have hck : ckG gh m [] = gh ++ [GObj.cells [LN m.nodes, LP m.inits, LP m.nexts, LI m.bads, LI m.holds, .sl true 1 []]] := rfl
   generalize ckG gh m (hangF [] m.nodes) = g1 at *
   generalize pairsAll m (hangF [] m.nodes) = r at *
   rw [hck] at hlen
   by_cases hbt : bitsK m.nodes 2 > 6 ∨ bitsK m.nodes 3 > 10
   ·rw [if_pos hbt]
    have k1 : runL pg q1j ⟨[(1, .ptr false 0 0)], [[LN m.nodes, LP m.inits, LP m.nexts, LI m.bads, LI m.holds]], gh⟩ = some (.ret, ⟨[(2, I 2)], [], gh⟩) := by
     refine q34_ ?_
     by_cases b1 : 6 < bitsK m.nodes 2
     ·simp [q34, hb, b1]
     ·have b2 : 10 < bitsK m.nodes 3 := by omega
      simp [q34, hb, b1, b2]
    refine ji3 (fn := qf) (s := ⟨[(2, I 2)], [], gh⟩) rfl rfl (q12_ ?h2) ?r2
    case r2 => simp [finish, results, qf, resOfs, resOf, resOk]
    case h2 => simp [q12, d1, d2, d3, hl, k1]
   ·rw [if_neg hbt]
    have b1 : ¬ 6 < bitsK m.nodes 2 := by omega
    have b2 : ¬ 10 < bitsK m.nodes 3 := by omega
    by_cases hr : r = 0
    ·rw [if_neg (fun h => h hr)]
     have k1 : runL pg q1j ⟨[(1, .ptr false 0 0)], [[LN m.nodes, LP m.inits, LP m.nexts, LI m.bads, LI m.holds]], gh⟩ = some (.ret, ⟨[(2, I (marksE m))], [], g1⟩) := by
      refine q34_ ?_
      simp [q34, hb, b1, b2, hlen, hp, hr, hm]
     refine ji3 (fn := qf) (s := ⟨[(2, I (marksE m))], [], g1⟩) rfl rfl (q12_ ?h3) ?r3
     case r3 => simp [finish, results, qf, resOfs, resOf, resOk, htk]
     case h3 => simp [q12, d1, d2, d3, hl, k1]
    ·rw [if_pos hr]
     have k1 : runL pg q1j ⟨[(1, .ptr false 0 0)], [[LN m.nodes, LP m.inits, LP m.nexts, LI m.bads, LI m.holds]], gh⟩ = some (.ret, ⟨[(2, I r)], [], g1⟩) := by
      refine q34_ ?_
      simp [q34, hb, b1, b2, hlen, hp, hr]
     refine ji3 (fn := qf) (s := ⟨[(2, I r)], [], g1⟩) rfl rfl (q12_ ?h4) ?r4
     case r4 => simp [finish, results, qf, resOfs, resOf, resOk, htk]
     case h4 => simp [q12, d1, d2, d3, hl, k1]
  ·rw [if_pos hn]
   rw [if_neg hn] at hl
   generalize nodesE m.nodes 0 m.nodes = r at *
   refine ji3 (fn := qf) (s := ⟨[(2, I r)], [], gh⟩) rfl rfl (q12_ ?h5) ?r5
   case r5 => simp [finish, results, qf, resOfs, resOf, resOk]
   case h5 => simp [q12, d1, d2, d3, hl]
end
end Go.Lw
end

/-! Models: inputs and states (the program), and the document's nodes of a kind, bits, and what hangs. -/
section
namespace Go.Lw
open Go
@[simp] theorem ble11 : Nat.ble 1 1 = true := rfl
section
variable {m : Md} {gh : List GObj}
theorem jmn {kind : Int} (hl : m.nodes.length * 8 ≤ 140737488355328) : ∀ k i (acc : List Int), i + k = m.nodes.length → acc.length ≤ i →
  runL pg q6y ⟨[(1, I kind), (2, .ptr false 0 0), (5, .sl true 1 (acc.map I)), (6, I (i : Int))], [[LN m.nodes, LP m.inits, LP m.nexts, LI m.bads, LI m.holds]], gh⟩ =
   some (.normal, ⟨[(5, .sl true 1 ((acc ++ kindF kind i (m.nodes.drop i)).map I))], [], gh⟩)
 | 0, i, acc, h, _ => by
  rw [List.drop_eq_nil_of_le (by omega)]
  have hlt : ¬ i < m.nodes.length := by omega
  refine (ji7 (s1 := ?s1) (q4t_ ?h1)).trans ?r1
  case h1 => simp [q4t, hlt]; rfl
  case r1 => simp [keep, kindF, stays]
 | k + 1, i, acc, h, ha => by
  have hlt : i < m.nodes.length := by omega
  have hltD : decide (i < m.nodes.length) = true := decide_eq_true hlt
  have hltI : (i : Int) < (m.nodes.length : Int) := by omega
  have e2 : IntKind.i64.wrap ((i : Int) + 1) = ((i + 1 : Nat) : Int) := jip (by simp only [Sz]; omega)
  have hx : (m.nodes.map nodeV)[i]? = some (nodeV m.nodes[i]) := by simp [List.getElem?_eq_getElem hlt]
  rw [jik m.nodes[i]] at hx
  have hmx : (acc.length + 1) * 8 ≤ maxBytes := by
   have : maxBytes = 140737488355328 := rfl
   omega
  rw [List.drop_eq_getElem_cons hlt, kindF]
  generalize m.nodes[i] = x at *
  have hk1 : ∀ acc' : List PV, runL pg q2f ⟨[(1, I kind), (2, .ptr false 0 0), (5, .sl true 1 acc'), (6, I (i : Int))], [[LN m.nodes, LP m.inits, LP m.nexts, LI m.bads, LI m.holds]], gh⟩ = some (.normal, ⟨[(1, I kind), (2, .ptr false 0 0), (5, .sl true 1 acc'), (6, I ((i + 1 : Nat) : Int))], [[LN m.nodes, LP m.inits, LP m.nexts, LI m.bads, LI m.holds]], gh⟩) := fun acc' => by
   refine qej_ ?_
   simp [qej, e2]
  by_cases hk : x.k = kind
  ·rw [if_pos hk]
   have e : acc ++ (i : Int) :: kindF kind (i + 1) (m.nodes.drop (i + 1)) = (acc ++ [(i : Int)]) ++ kindF kind (i + 1) (m.nodes.drop (i + 1)) := by simp
   rw [e]
   have hk1 := hk1 (acc.map I ++ [I (i : Int)])
   refine ji4 (s1 := ⟨[(1, I kind), (2, .ptr false 0 0), (5, .sl true 1 ((acc ++ [(i : Int)]).map I)), (6, I ((i + 1 : Nat) : Int))], [[LN m.nodes, LP m.inits, LP m.nexts, LI m.bads, LI m.holds]], gh⟩) (q4t_ ?_) (jmn hl k (i + 1) _ (by omega) (by simp; omega))
   have hal : (acc.map I).length = acc.length := by simp
   simp only [List.map_append, List.map_cons, List.map_nil] at hk1 ⊢
   generalize acc.map I = A at *
   simp [q4t, hltD, hx, hk, hal, hmx, hk1, -List.getElem?_map]
  ·rw [if_neg hk]
   have hk1 := hk1 (acc.map I)
   refine ji4 (s1 := ⟨[(1, I kind), (2, .ptr false 0 0), (5, .sl true 1 (acc.map I)), (6, I ((i + 1 : Nat) : Int))], [[LN m.nodes, LP m.inits, LP m.nexts, LI m.bads, LI m.holds]], gh⟩) (q4t_ ?_) (jmn hl k (i + 1) _ (by omega) (by omega))
   generalize acc.map I = A at *
   simp [q4t, hltD, hx, hk, hk1, -List.getElem?_map]
theorem jke {kind : Int} (hl : m.nodes.length * 8 ≤ 140737488355328) : callL pg 39 [modelV m, I kind] gh = some (LI (kindL m.nodes kind), gh) := by
 have h := jmn (gh := gh) (kind := kind) hl m.nodes.length 0 [] (by omega) (by simp)
 rw [List.drop_zero, List.nil_append] at h
 simp only [List.map_nil, Int.natCast_zero] at h
 have hn := noGs_ints (kindF kind 0 m.nodes)
 have hk := qek_ (pg := pg) (gh := gh) (v5 := .sl true 1 ((kindF kind 0 m.nodes).map I)) (e := .ret) (s := ⟨[(4, .sl false 1 ((kindF kind 0 m.nodes).map I))], [], gh⟩) (by simp [qek])
 unfold kindL
 simp only [LI] at *
 generalize (kindF kind 0 m.nodes).map I = K at *
 rw [ji9]
 refine ji3 (fn := q70) (s := ⟨[(4, .sl false 1 K)], [], gh⟩) rfl rfl (qel_ ?h1) ?r1
 case h1 => simp [qel, h, hk]
 case r1 => simp [finish, results, q70, resOfs, resOf, resOk, hn]
theorem jmo {kind : Int} (hl : m.nodes.length * 8 ≤ 140737488355328) : ∀ k i s, i + k = m.nodes.length →
  runL pg q78 ⟨[(1, I kind), (2, .ptr false 0 0), (5, I s), (6, I (i : Int))], [[LN m.nodes, LP m.inits, LP m.nexts, LI m.bads, LI m.holds]], gh⟩ =
   some (.normal, ⟨[(5, I (((m.nodes.drop i).filter fun x => decide (x.k = kind)).foldl addW s))], [], gh⟩)
 | 0, i, s, h => by
  rw [List.drop_eq_nil_of_le (by omega)]
  have hlt : ¬ i < m.nodes.length := by omega
  refine (ji7 (s1 := ?s1) (q4v_ ?h1)).trans ?r1
  case h1 => simp [q4v, hlt]; rfl
  case r1 => simp [keep, stays]
 | k + 1, i, s, h => by
  have hlt : i < m.nodes.length := by omega
  have hltD : decide (i < m.nodes.length) = true := decide_eq_true hlt
  have hltI : (i : Int) < (m.nodes.length : Int) := by omega
  have e2 : IntKind.i64.wrap ((i : Int) + 1) = ((i + 1 : Nat) : Int) := jip (by simp only [Sz]; omega)
  have hx : (m.nodes.map nodeV)[i]? = some (nodeV m.nodes[i]) := by simp [List.getElem?_eq_getElem hlt]
  rw [jik m.nodes[i]] at hx
  rw [List.drop_eq_getElem_cons hlt, List.filter_cons]
  generalize m.nodes[i] = x at *
  have hk1 : ∀ s', runL pg q2j ⟨[(1, I kind), (2, .ptr false 0 0), (5, I s'), (6, I (i : Int))], [[LN m.nodes, LP m.inits, LP m.nexts, LI m.bads, LI m.holds]], gh⟩ = some (.normal, ⟨[(1, I kind), (2, .ptr false 0 0), (5, I s'), (6, I ((i + 1 : Nat) : Int))], [[LN m.nodes, LP m.inits, LP m.nexts, LI m.bads, LI m.holds]], gh⟩) := fun s' => by
   refine qem_ ?_
   simp [qem, e2]
  by_cases hk : x.k = kind
  ·rw [if_pos (by simpa using hk), List.foldl_cons]
   have hk1 := hk1 (IntKind.i64.wrap (s + x.w))
   refine ji4 (s1 := ⟨[(1, I kind), (2, .ptr false 0 0), (5, I (addW s x)), (6, I ((i + 1 : Nat) : Int))], [[LN m.nodes, LP m.inits, LP m.nexts, LI m.bads, LI m.holds]], gh⟩) (q4v_ ?_) (jmo hl k (i + 1) _ (by omega))
   unfold addW
   simp [q4v, hltD, hx, hk, hk1, -List.getElem?_map]
  ·rw [if_neg (by simpa using hk)]
   have hk1 := hk1 s
   refine ji4 (s1 := ⟨[(1, I kind), (2, .ptr false 0 0), (5, I s), (6, I ((i + 1 : Nat) : Int))], [[LN m.nodes, LP m.inits, LP m.nexts, LI m.bads, LI m.holds]], gh⟩) (q4v_ ?_) (jmo hl k (i + 1) _ (by omega))
   simp [q4v, hltD, hx, hk, hk1, -List.getElem?_map]
theorem jpr {kind : Int} (hl : m.nodes.length * 8 ≤ 140737488355328) : callL pg 73 [modelV m, I kind] gh = some (I (bitsK m.nodes kind), gh) := by
 have h := jmo (gh := gh) (kind := kind) hl m.nodes.length 0 0 (by omega)
 rw [List.drop_zero] at h
 simp only [Int.natCast_zero] at h
 unfold bitsK
 generalize (m.nodes.filter fun x => decide (x.k = kind)).foldl addW 0 = r at *
 have hk := qhl_ (pg := pg) (gh := gh) (x5 := r) rfl
 rw [ji9]
 refine ji3 (fn := q7a) (s := ⟨[(4, I r)], [], gh⟩) rfl rfl (qen_ ?h1) ?r1
 case h1 => simp [qen, h, hk]
 case r1 => simp [finish, results, q7a, resOfs, resOf, resOk]
end
end Go.Lw
end

/-! Models: what hangs (the document). -/
section
namespace Go.Lw
open Go
section
variable {m : Md} {gh : List GObj}
def stepB (on : Prop) [Decidable on] (f : List Bool) (b : Bool) (a : Int) : Bool := if on then b || f.getD a.toNat false else b
theorem jwg (f : List Bool) (x : Nd) : hangB f x = stepB (2 < takesOf x.k) f (stepB (1 < takesOf x.k) f (stepB (0 < takesOf x.k) f (decide (x.k = 2 ∨ x.k = 3)) x.a) x.b) x.c := by
 unfold hangB argsL stepB
 rcases jjg x.k with h | h | h | h <;> rw [h] <;> simp [Bool.or_assoc]
abbrev mcells (m : Md) : List PV := [LN m.nodes, LP m.inits, LP m.nexts, LI m.bads, LI m.holds]
theorem jwh {f : List Bool} {i : Int} {b : Bool} (hf : f.length ≤ 1000) :
  runL pg q1k ⟨[(1, .ptr false 0 0), (3, .sl true 1 (f.map B)), (4, I i), (6, B b)], [mcells m], gh⟩ = some (.normal, ⟨[(1, .ptr false 0 0), (3, .sl true 1 ((f ++ [b]).map B)), (4, I i)], [mcells m], gh⟩) := by
 have hmx : f.length + 1 ≤ maxBytes := by
  have : maxBytes = 140737488355328 := rfl
  omega
 refine qeo_ ?_
 simp [qeo, hmx]
theorem jwi {f : List Bool} {i : Int} {b : Bool} {x : Nd} (hf : f.length ≤ 1000) (hc : 2 < takesOf x.k → 0 ≤ x.c ∧ x.c.toNat < f.length) :
  runL pg q1l ⟨[(1, .ptr false 0 0), (3, .sl true 1 (f.map B)), (4, I i), (5, .ptr false 1 0), (6, B b)], [mcells m, [I x.k, I x.w, I x.a, I x.b, I x.c, I x.n]], gh⟩ =
   some (.normal, ⟨[(1, .ptr false 0 0), (3, .sl true 1 ((f ++ [stepB (2 < takesOf x.k) f b x.c]).map B)), (4, I i)], [mcells m], gh⟩) := by
 have ht := jiv x.k gh
 have k3 := fun b' => jwh (m := m) (gh := gh) (i := i) (b := b') hf
 unfold stepB
 refine q4w_ ?_
 by_cases h : 2 < takesOf x.k
 ·obtain ⟨h0, h1⟩ := hc h
  have hfr := fr_idx h1
  rw [if_pos h]
  generalize f.getD x.c.toNat false = c at *
  generalize takesOf x.k = t at *
  cases b with
  | true =>
   have k3 := k3 true
   simp only [mcells] at *
   simp [q4w, ht, h, k3]
  | false =>
   have k3 := k3 c
   simp only [mcells, Bool.false_or] at *
   generalize (f ++ [c]).map B = F2 at *
   generalize f.map B = F at *
   simp [q4w, ht, h, h0, hfr, k3]
 ·rw [if_neg h]
  have k3 := k3 b
  generalize takesOf x.k = t at *
  simp only [mcells] at *
  generalize (f ++ [b]).map B = F2 at *
  generalize f.map B = F at *
  simp [q4w, ht, h, k3]
theorem jwj {f : List Bool} {i : Int} {b : Bool} {x : Nd} (hf : f.length ≤ 1000) (hb : 1 < takesOf x.k → 0 ≤ x.b ∧ x.b.toNat < f.length) (hc : 2 < takesOf x.k → 0 ≤ x.c ∧ x.c.toNat < f.length) :
  runL pg qw ⟨[(1, .ptr false 0 0), (3, .sl true 1 (f.map B)), (4, I i), (5, .ptr false 1 0), (6, B b)], [mcells m, [I x.k, I x.w, I x.a, I x.b, I x.c, I x.n]], gh⟩ =
   some (.normal, ⟨[(1, .ptr false 0 0), (3, .sl true 1 ((f ++ [stepB (2 < takesOf x.k) f (stepB (1 < takesOf x.k) f b x.b) x.c]).map B)), (4, I i)], [mcells m], gh⟩) := by
 have ht := jiv x.k gh
 have k2 := fun b' => jwi (m := m) (gh := gh) (i := i) (b := b') hf hc
 have e : ∀ c, stepB (1 < takesOf x.k) f b c = if 1 < takesOf x.k then b || f.getD c.toNat false else b := fun _ => rfl
 rw [e]
 refine q4x_ ?_
 by_cases h : 1 < takesOf x.k
 ·obtain ⟨h0, h1⟩ := hb h
  have hfr := fr_idx h1
  rw [if_pos h]
  generalize f.getD x.b.toNat false = c at *
  cases b with
  | true =>
   have k2 := k2 true
   rw [Bool.true_or]
   generalize stepB (2 < takesOf x.k) f true x.c = r at *
   simp only [mcells] at *
   generalize takesOf x.k = t at *
   generalize (f ++ [r]).map B = F2 at *
   generalize f.map B = F at *
   simp [q4x, ht, h, k2]
  | false =>
   have k2 := k2 c
   rw [Bool.false_or]
   simp only [mcells] at *
   generalize stepB (2 < takesOf x.k) f c x.c = r at *
   generalize takesOf x.k = t at *
   generalize (f ++ [r]).map B = F2 at *
   generalize f.map B = F at *
   simp [q4x, ht, h, h0, hfr, k2]
 ·rw [if_neg h]
  have k2 := k2 b
  generalize stepB (2 < takesOf x.k) f b x.c = r at *
  generalize takesOf x.k = t at *
  simp only [mcells] at *
  generalize (f ++ [r]).map B = F2 at *
  generalize f.map B = F at *
  simp [q4x, ht, h, k2]
theorem jps (hA : Ahead m.nodes) (hl : m.nodes.length ≤ 1000) : ∀ k i (f : List Bool), i + k = m.nodes.length → f.length = i →
  runL pg q7b ⟨[(1, .ptr false 0 0), (3, .sl true 1 (f.map B)), (4, I (i : Int))], [mcells m], gh⟩ = some (.normal, ⟨[(3, .sl true 1 ((hangF f (m.nodes.drop i)).map B))], [], gh⟩)
 | 0, i, f, h, _ => by
  rw [List.drop_eq_nil_of_le (by omega)]
  have hlt : ¬ i < m.nodes.length := by omega
  refine (ji7 (s1 := ?s1) (q1d_ ?h1)).trans ?r1
  case h1 => simp [q1d, hlt]; rfl
  case r1 => simp [keep, hangF, stays]
 | k + 1, i, f, h, hf => by
  have hlt : i < m.nodes.length := by omega
  have hltD : decide (i < m.nodes.length) = true := decide_eq_true hlt
  have e2 : IntKind.i64.wrap ((i : Int) + 1) = ((i + 1 : Nat) : Int) := by rw [ji5 (by omega) (by omega)]; omega
  have hx : (m.nodes.map nodeV)[i]? = some (nodeV m.nodes[i]) := by simp [List.getElem?_eq_getElem hlt]
  have hah := hA i _ (List.getElem?_eq_getElem hlt)
  rw [List.drop_eq_getElem_cons hlt, hangF, jwg]
  generalize m.nodes[i] = x at *
  rw [jik x] at hx
  have ha : 0 < takesOf x.k → 0 ≤ x.a ∧ x.a.toNat < f.length := fun ht => by
   have := hah x.a (by unfold argsL; rcases jjg x.k with h | h | h | h <;> rw [h] at ht ⊢ <;> simp at ht ⊢)
   omega
  have hb : 1 < takesOf x.k → 0 ≤ x.b ∧ x.b.toNat < f.length := fun ht => by
   have := hah x.b (by unfold argsL; rcases jjg x.k with h | h | h | h <;> rw [h] at ht ⊢ <;> simp at ht ⊢)
   omega
  have hc : 2 < takesOf x.k → 0 ≤ x.c ∧ x.c.toNat < f.length := fun ht => by
   have := hah x.c (by unfold argsL; rcases jjg x.k with h | h | h | h <;> rw [h] at ht ⊢ <;> simp at ht ⊢)
   omega
  have k1 := fun b' => jwj (m := m) (gh := gh) (i := (i : Int)) (b := b') (by omega : f.length ≤ 1000) hb hc
  have k4 : ∀ f' : List PV, runL pg qx ⟨[(1, .ptr false 0 0), (3, .sl true 1 f'), (4, I (i : Int))], [mcells m], gh⟩ = some (.normal, ⟨[(1, .ptr false 0 0), (3, .sl true 1 f'), (4, I ((i + 1 : Nat) : Int))], [mcells m], gh⟩) := fun f' => by
   refine qep_ ?_
   simp [qep, e2]
  have ht := jiv x.k gh
  refine ji4 (q1d_ ?_) (jps hA hl k (i + 1) _ (by omega) (by simp; omega))
  have e0 : ∀ b, stepB (0 < takesOf x.k) f b x.a = if 0 < takesOf x.k then b || f.getD x.a.toNat false else b := fun _ => rfl
  rw [e0]
  simp only [mcells] at *
  by_cases h2 : x.k = 2
  ·have d2 : decide (x.k = 2) = true := decide_eq_true h2
   have hd : decide (x.k = 2 ∨ x.k = 3) = true := decide_eq_true (.inl h2)
   rw [hd]
   have hif : (if 0 < takesOf x.k then true || f.getD x.a.toNat false else true) = true := by split <;> simp
   rw [hif]
   have k1 := k1 true
   generalize stepB (2 < takesOf x.k) f (stepB (1 < takesOf x.k) f true x.b) x.c = r at *
   have k4 := k4 ((f ++ [r]).map B)
   generalize takesOf x.k = t at *
   generalize (f ++ [r]).map B = F2 at *
   generalize f.map B = F at *
   by_cases h0 : 0 < t
   ·simp [q1d, hltD, hx, d2, ht, h0, k1, k4, -List.getElem?_map]
   ·simp [q1d, hltD, hx, d2, ht, h0, k1, k4, -List.getElem?_map]
  ·have d2 : decide (x.k = 2) = false := decide_eq_false h2
   have hd : decide (x.k = 2 ∨ x.k = 3) = decide (x.k = 3) := by simp [h2]
   rw [hd]
   by_cases h0 : 0 < takesOf x.k
   ·rw [if_pos h0]
    obtain ⟨ha0, ha1⟩ := ha h0
    have hfr := fr_idx ha1
    generalize f.getD x.a.toNat false = c at *
    have k1 := k1 (decide (x.k = 3) || c)
    generalize hb3 : decide (x.k = 3) = b3 at *
    generalize stepB (2 < takesOf x.k) f (stepB (1 < takesOf x.k) f (b3 || c) x.b) x.c = r at *
    have k4 := k4 ((f ++ [r]).map B)
    generalize takesOf x.k = t at *
    generalize (f ++ [r]).map B = F2 at *
    generalize f.map B = F at *
    cases b3 with
    | true =>
     rw [Bool.true_or] at k1
     simp [q1d, hltD, hx, d2, ht, h0, hb3, k1, k4, -List.getElem?_map]
    | false =>
     rw [Bool.false_or] at k1
     simp [q1d, hltD, hx, d2, ht, h0, hb3, ha0, hfr, k1, k4, -List.getElem?_map]
   ·rw [if_neg h0]
    have k1 := k1 (decide (x.k = 3))
    generalize hb3 : decide (x.k = 3) = b3 at *
    generalize stepB (2 < takesOf x.k) f (stepB (1 < takesOf x.k) f b3 x.b) x.c = r at *
    have k4 := k4 ((f ++ [r]).map B)
    generalize takesOf x.k = t at *
    generalize (f ++ [r]).map B = F2 at *
    generalize f.map B = F at *
    simp [q1d, hltD, hx, d2, ht, h0, hb3, k1, k4, -List.getElem?_map]
theorem jwk (hA : Ahead m.nodes) (hl : m.nodes.length ≤ 1000) : callL pg 74 [modelV m] gh = some (.sl false 1 ((hangF [] m.nodes).map B), gh) := by
 have h := jps (gh := gh) hA hl m.nodes.length 0 [] (by omega) rfl
 rw [List.drop_zero] at h
 simp only [List.map_nil, Int.natCast_zero, mcells] at h
 have hn : noGs ((hangF [] m.nodes).map B) = true := by
  generalize hangF [] m.nodes = l
  induction l with
  | nil => rfl
  | cons a l ih => simpa using ih
 generalize (hangF [] m.nodes).map B = K at *
 have hk := qeq_ (pg := pg) (gh := gh) (v3 := .sl true 1 K) (e := .ret) (s := ⟨[(2, .sl false 1 K)], [], gh⟩) (by simp [qeq])
 rw [ji9]
 refine ji3 (fn := q7d) (s := ⟨[(2, .sl false 1 K)], [], gh⟩) rfl rfl (qer_ ?h1) ?r1
 case h1 => simp [qer, h, hk]
 case r1 => simp [finish, results, q7d, resOfs, resOf, resOk, hn]
end
end Go.Lw
end

/-! Models: the whole check (the document): loops. -/
section
namespace Go.Lw
open Go
def dupF : List (Int × Int) → List (Int × Int) → Bool
 | _, [] => false
 | pre, p :: l => pre.any (fun q => decide (p.1 = q.1)) || dupF (pre ++ [p]) l
theorem jpt : ∀ {pre l : List (Int × Int)}, dupF pre l = false ↔ ((l.map (·.1)).Nodup ∧ ∀ p ∈ l, ∀ q ∈ pre, p.1 ≠ q.1)
 | pre, [] => by simp [dupF]
 | pre, p :: l => by
  rw [dupF, Bool.or_eq_false_iff, jpt (pre := pre ++ [p]) (l := l)]
  simp only [List.any_eq_false, List.map_cons, List.nodup_cons, List.mem_cons, List.mem_append, List.not_mem_nil, or_false, decide_eq_true_eq]
  constructor
  ·rintro ⟨h1, h2, h3⟩
   refine ⟨⟨fun hm => ?_, h2⟩, ?_⟩
   ·obtain ⟨q, hq, he⟩ := List.mem_map.1 hm
    exact h3 q hq p (.inr rfl) he
   ·rintro a (rfl | ha) q hq
    ·exact h1 q hq
    ·exact h3 a ha q (.inl hq)
  ·rintro ⟨⟨h1, h2⟩, h3⟩
   refine ⟨fun q hq => h3 p (.inl rfl) q hq, h2, fun a ha q hq => ?_⟩
   rcases hq with hq | rfl
   ·exact h3 a (.inr ha) q hq
   ·exact fun he => h1 (he ▸ List.mem_map_of_mem ha)
theorem jwl (l : List (Int × Int)) : dupF [] l = decide (twice l) := by
 have h := jpt (pre := []) (l := l)
 unfold twice
 cases hd : dupF [] l with
 | false => exact (decide_eq_false fun hn => hn (h.1 hd).1).symm
 | true =>
  have : ¬ dupF [] l = false := by simp [hd]
  rw [h] at this
  exact (decide_eq_true (p := ¬ (l.map (·.1)).Nodup) fun hn => this ⟨hn, by simp⟩).symm
section
variable {m : Md} {gh : List GObj}
theorem RC_l1 (hl : m.nodes.length ≤ 1000) : ∀ k i, i + k = m.nodes.length →
  runL pg q6s ⟨[(1, .ptr false 0 0), (3, I (i : Int))], [mcells m], gh⟩ =
   if nodesE m.nodes i (m.nodes.drop i) = 0 then some (.normal, ⟨[(1, .ptr false 0 0)], [mcells m], gh⟩)
   else some (.ret, ⟨[(2, I (nodesE m.nodes i (m.nodes.drop i)))], [], gh⟩)
 | 0, i, h => by
  rw [List.drop_eq_nil_of_le (by omega), nodesE, if_pos rfl]
  have hlt : ¬ i < m.nodes.length := by omega
  refine (ji7 (s1 := ?s1) (q4y_ ?h1)).trans ?r1
  case h1 => simp [q4y, hlt]; rfl
  case r1 => simp [keep, stays]
 | k + 1, i, h => by
  have hlt : i < m.nodes.length := by omega
  have hltD : decide (i < m.nodes.length) = true := decide_eq_true hlt
  have e2 : IntKind.i64.wrap ((i : Int) + 1) = ((i + 1 : Nat) : Int) := by rw [ji5 (by omega) (by omega)]; omega
  have hn := jvz (l := m.nodes) (gh := gh) (idx := i) (List.getElem?_eq_getElem hlt) (by omega)
  rw [List.drop_eq_getElem_cons hlt, nodesE]
  generalize nodeE m.nodes (i : Int) m.nodes[i] = r at *
  by_cases he : r = 0
  ·rw [if_pos he]
   refine ji4 (s1 := ⟨[(1, .ptr false 0 0), (3, I ((i + 1 : Nat) : Int))], [mcells m], gh⟩) (q4y_ ?_) (RC_l1 hl k (i + 1) (by omega))
   simp [q4y, hltD, hn, he, e2]
  ·rw [if_neg he, if_neg he]
   refine lp_ret (q4y_ ?_)
   simp [q4y, hltD, hn, he]
theorem jmp (hl : m.nodes.length ≤ 1000) (n : Int) : callL pg 50 [I n, I 0, I (IntKind.i64.wrap ((m.nodes.length : Int) - 1))] gh = some (B (decide (isNo m.nodes n)), gh) := by
 have e : IntKind.i64.wrap ((m.nodes.length : Int) - 1) = (m.nodes.length : Int) - 1 := ji5 (by omega) (by omega)
 rw [e, jio]
 have : decide (0 ≤ n ∧ n ≤ (m.nodes.length : Int) - 1) = decide (isNo m.nodes n) := decide_eq_decide.2 ⟨fun h => ⟨h.1, by omega⟩, fun h => ⟨h.1, by have := h.2; have := h.1; omega⟩⟩
 rw [this]
theorem RC_l3 {f : List Bool} {ps : List (Int × Int)} {k : Nat} (hf : f.length = m.nodes.length) (hl : m.nodes.length ≤ 1000) (hs : Sz ps.length) : ∀ n j, j + n = ps.length →
  runL pg q26 ⟨[(1, .ptr false 0 0), (5, .sl false 1 (f.map B)), (6, I (k : Int)), (7, LP ps), (8, I (j : Int))], [mcells m], gh⟩ =
   if pairsE m.nodes f (decide (k = 0)) (ps.drop j) = 0 then some (.normal, ⟨[(1, .ptr false 0 0), (5, .sl false 1 (f.map B)), (6, I (k : Int))], [mcells m], gh⟩)
   else some (.ret, ⟨[(2, I (pairsE m.nodes f (decide (k = 0)) (ps.drop j)))], [], gh⟩)
 | 0, j, h => by
  rw [List.drop_eq_nil_of_le (by omega), pairsE, if_pos rfl]
  have hlt : ¬ j < ps.length := by omega
  refine (ji7 (s1 := ?s1) (qu_ ?h1)).trans ?r1
  case h1 => simp only [qu]; simp [hlt]; rfl
  case r1 => simp [keep, stays]
 | n + 1, j, h => by
  have hlt : j < ps.length := by omega
  have hltD : decide (j < ps.length) = true := decide_eq_true hlt
  have hltI : (j : Int) < (ps.length : Int) := by omega
  have e2 : IntKind.i64.wrap ((j : Int) + 1) = ((j + 1 : Nat) : Int) := jip (by simp only [Sz] at hs ⊢; omega)
  have hx : (ps.map andV)[j]? = some (andV ps[j]) := by simp [List.getElem?_eq_getElem hlt]
  rw [jj7] at hx
  rw [List.drop_eq_getElem_cons hlt, pairsE]
  generalize ps[j] = p at *
  obtain ⟨a, b⟩ := p
  simp only at hx
  have hk0 : ((k : Int) == 0) = decide (k = 0) := by
   rw [beqI]; exact decide_eq_decide.2 (by omega)
  obtain ⟨ini, hini⟩ : ∃ ini, decide (k = 0) = ini := ⟨_, rfl⟩
  rw [hini] at hk0 ⊢
  have i1 := jmp (m := m) (gh := gh) hl a
  have i2 := jmp (m := m) (gh := gh) hl b
  have hNl : (m.nodes.map nodeV).length = m.nodes.length := by simp
  generalize hw : IntKind.i64.wrap ((m.nodes.length : Int) - 1) = w at *
  have hret : ∀ r, r ≠ 0 → pairE m.nodes f ini (a, b) = r → qu pg (.sl false 1 (f.map B)) k (LP ps) j (LN m.nodes) (LP m.inits) (LP m.nexts) (LI m.bads) (LI m.holds) gh = some (.ret, ⟨[(2, I r)], [], gh⟩) →
    runL pg q26 ⟨[(1, .ptr false 0 0), (5, .sl false 1 (f.map B)), (6, I (k : Int)), (7, LP ps), (8, I (j : Int))], [mcells m], gh⟩ =
   if (if pairE m.nodes f ini (a, b) = 0 then pairsE m.nodes f ini (ps.drop (j + 1)) else pairE m.nodes f ini (a, b)) = 0 then some (.normal, ⟨[(1, .ptr false 0 0), (5, .sl false 1 (f.map B)), (6, I (k : Int))], [mcells m], gh⟩)
   else some (.ret, ⟨[(2, I (if pairE m.nodes f ini (a, b) = 0 then pairsE m.nodes f ini (ps.drop (j + 1)) else pairE m.nodes f ini (a, b)))], [], gh⟩) := by
   intro r hr he hD
   rw [he, if_neg hr, if_neg hr]
   exact lp_ret (qu_ hD)
  by_cases h1 : isNo m.nodes a
  ·rw [decide_eq_true h1] at i1
   by_cases h2 : isNo m.nodes b
   ·rw [decide_eq_true h2] at i2
    have n1 := jis h1
    have n2 := jis h2
    have z1 := h1.1
    have z2 := h2.1
    have hfr := fr_idx (f := f) (a := b) (by rw [hf]; exact h2.2)
    by_cases h3 : (m.nodes.getD a.toNat default).k = 3
    ·by_cases h4 : wAt m.nodes a = wAt m.nodes b
     ·by_cases h5 : ini = true ∧ f.getD b.toNat false = true
      ·refine hret 4 (by decide) (by simp only [pairE]; rw [if_neg (by rintro (h | h | h) <;> contradiction), if_neg (fun h => h h4), if_pos h5]) ?_
       obtain ⟨rfl, h5⟩ := h5
       rw [h5] at hfr
       unfold wAt at h4
       generalize m.nodes.getD a.toNat default = d1 at *
       generalize m.nodes.getD b.toNat default = d2 at *
       rw [jik d1] at n1
       rw [jik d2] at n2
       have d3 : decide (d1.k = 3) = true := decide_eq_true h3
       simp only [qu, hk0]
       simp [hltD, hx, hw, i1, i2, z1, z2, n1, n2, d3, h4, hfr, -List.getElem?_map]
      ·have he : pairE m.nodes f ini (a, b) = 0 := by simp only [pairE]; rw [if_neg (by rintro (h | h | h) <;> contradiction), if_neg (fun h => h h4), if_neg h5]
       rw [he, if_pos rfl]
       refine ji4 (s1 := ⟨[(1, .ptr false 0 0), (5, .sl false 1 (f.map B)), (6, I (k : Int)), (7, LP ps), (8, I ((j + 1 : Nat) : Int))], [mcells m], gh⟩) (qu_ ?_) ?_
       ·unfold wAt at h4
        generalize m.nodes.getD a.toNat default = d1 at *
        generalize m.nodes.getD b.toNat default = d2 at *
        rw [jik d1] at n1
        rw [jik d2] at n2
        have d3 : decide (d1.k = 3) = true := decide_eq_true h3
        simp only [qu, hk0]
        cases ini with
        | true =>
         have h5 : f.getD b.toNat false = false := by simpa using h5
         rw [h5] at hfr
         generalize f.map B = F at *
         simp [hltD, hx, hw, i1, i2, z1, z2, n1, n2, d3, h4, hfr, e2, -List.getElem?_map]
        | false =>
         generalize f.map B = F at *
         simp [hltD, hx, hw, i1, i2, z1, z2, n1, n2, d3, h4, e2, -List.getElem?_map]
       ·rw [← hini]
        exact RC_l3 hf hl hs n (j + 1) (by omega)
     ·refine hret 1 (by decide) (by simp only [pairE]; rw [if_neg (by rintro (h | h | h) <;> contradiction), if_pos h4]) ?_
      unfold wAt at h4
      generalize m.nodes.getD a.toNat default = d1 at *
      generalize m.nodes.getD b.toNat default = d2 at *
      rw [jik d1] at n1
      rw [jik d2] at n2
      have d3 : decide (d1.k = 3) = true := decide_eq_true h3
      simp only [qu, hk0]
      simp [hltD, hx, hw, i1, i2, z1, z2, n1, n2, d3, h4, -List.getElem?_map]
    ·refine hret 5 (by decide) (by simp only [pairE]; rw [if_pos (.inr (.inr h3))]) ?_
     generalize m.nodes.getD a.toNat default = d1 at *
     rw [jik d1] at n1
     have d3 : decide (d1.k = 3) = false := decide_eq_false h3
     simp only [qu, hk0]
     simp [hltD, hx, hw, i1, i2, z1, n1, d3, -List.getElem?_map]
   ·rw [decide_eq_false h2] at i2
    refine hret 5 (by decide) (by simp only [pairE]; rw [if_pos (.inr (.inl h2))]) ?_
    simp only [qu, hk0]
    simp [hltD, hx, hw, i1, i2, -List.getElem?_map]
  ·rw [decide_eq_false h1] at i1
   refine hret 5 (by decide) (by simp only [pairE]; rw [if_pos (.inl h1)]) ?_
   simp only [qu, hk0]
   simp [hltD, hx, hw, i1, -List.getElem?_map]
theorem RC_l6 {ps : List (Int × Int)} {k i : Nat} {s w : Int} (hs : Sz ps.length) (hi : ps[i]? = some (s, w)) : ∀ n j, j + n = i →
  runL pg q6u ⟨[(1, .ptr false 0 0), (10, I (k : Int)), (11, LP ps), (12, I (i : Int)), (13, I (j : Int))], [mcells m], gh⟩ =
   if ((ps.take i).drop j).any (fun q => decide (s = q.1)) = true then some (.ret, ⟨[(2, I 6)], [], gh⟩)
   else some (.normal, ⟨[(1, .ptr false 0 0), (10, I (k : Int)), (11, LP ps), (12, I (i : Int))], [mcells m], gh⟩)
 | 0, j, h => by
  have hil := (List.getElem?_eq_some_iff.1 hi).1
  rw [List.drop_eq_nil_of_le (by simp; omega), List.any_nil, if_neg (by simp)]
  have hlt : ¬ (j : Int) < (i : Int) := by omega
  refine (ji7 (s1 := ?s1) (q4z_ ?h1)).trans ?r1
  case h1 => simp only [q4z, decide_eq_false hlt, jim]; simp; rfl
  case r1 => simp [keep, stays]
 | n + 1, j, h => by
  have hil := (List.getElem?_eq_some_iff.1 hi).1
  have hlt : (j : Int) < (i : Int) := by omega
  have hltD : decide ((j : Int) < (i : Int)) = true := decide_eq_true hlt
  have e2 : IntKind.i64.wrap ((j : Int) + 1) = ((j + 1 : Nat) : Int) := jip (by simp only [Sz] at hs ⊢; omega)
  have hj : j < (ps.take i).length := by simp; omega
  have hx : (ps.map andV)[j]? = some (andV (ps.take i)[j]) := by simp [List.getElem?_eq_getElem (show j < ps.length by omega)]
  have hy : (ps.map andV)[i]? = some (andV (s, w)) := by simp [hi]
  rw [jj7] at hx hy
  rw [List.drop_eq_getElem_cons hj, List.any_cons]
  generalize (ps.take i)[j] = q at *
  obtain ⟨a, b⟩ := q
  simp only at hx hy ⊢
  by_cases he : s = a
  ·rw [decide_eq_true he, Bool.true_or, if_pos rfl]
   refine lp_ret (q4z_ ?_)
   simp only [q4z, hltD]
   simp [hx, hy, he, -List.getElem?_map]
  ·rw [decide_eq_false he, Bool.false_or]
   refine ji4 (s1 := ⟨[(1, .ptr false 0 0), (10, I (k : Int)), (11, LP ps), (12, I (i : Int)), (13, I ((j + 1 : Nat) : Int))], [mcells m], gh⟩) (q4z_ ?_) (RC_l6 hs hi n (j + 1) (by omega))
   simp only [q4z, hltD]
   simp [hx, hy, he, e2, -List.getElem?_map]
theorem RC_l5 {ps : List (Int × Int)} {k : Nat} (hs : Sz ps.length) : ∀ n i, i + n = ps.length →
  runL pg q3x ⟨[(1, .ptr false 0 0), (10, I (k : Int)), (11, LP ps), (12, I (i : Int))], [mcells m], gh⟩ =
   if dupF (ps.take i) (ps.drop i) = true then some (.ret, ⟨[(2, I 6)], [], gh⟩) else some (.normal, ⟨[(1, .ptr false 0 0), (10, I (k : Int))], [mcells m], gh⟩)
 | 0, i, h => by
  rw [List.drop_eq_nil_of_le (by omega), dupF, if_neg (by simp)]
  have hlt : ¬ i < ps.length := by omega
  refine (ji7 (s1 := ?s1) (q50_ ?h1)).trans ?r1
  case h1 => simp only [q50]; simp [hlt]; rfl
  case r1 => simp [keep, stays]
 | n + 1, i, h => by
  have hlt : i < ps.length := by omega
  have hltD : decide (i < ps.length) = true := decide_eq_true hlt
  have e2 : IntKind.i64.wrap ((i : Int) + 1) = ((i + 1 : Nat) : Int) := jip (by simp only [Sz] at hs ⊢; omega)
  have hg : ps[i]? = some (ps[i].1, ps[i].2) := List.getElem?_eq_getElem hlt
  have h6 := RC_l6 (m := m) (gh := gh) (k := k) hs hg i 0 (by omega)
  rw [List.drop_zero] at h6
  simp only [Int.natCast_zero] at h6
  have htk : ps.take i ++ [ps[i]] = ps.take (i + 1) := by simp
  have hPl : (ps.map andV).length = ps.length := by simp
  rw [List.drop_eq_getElem_cons hlt, dupF, htk]
  have k6 : runL pg q3w ⟨[(1, .ptr false 0 0), (10, I (k : Int)), (11, LP ps), (12, I (i : Int))], [mcells m], gh⟩ = some (.normal, ⟨[(1, .ptr false 0 0), (10, I (k : Int)), (11, LP ps), (12, I ((i + 1 : Nat) : Int))], [mcells m], gh⟩) := by
   refine qeu_ ?_
   simp [qeu, e2]
  have hrec := RC_l5 (k := k) hs n (i + 1) (by omega)
  cases hd : (ps.take i).any (fun q => decide (ps[i].1 = q.1)) with
  | true =>
   rw [hd, if_pos rfl] at h6
   rw [Bool.true_or, if_pos rfl]
   refine lp_ret (q50_ ?_)
   simp only [mcells] at *
   simp only [q50]
   simp [hltD, h6]
  | false =>
   rw [hd, if_neg (by simp)] at h6
   rw [Bool.false_or]
   refine ji4 (s1 := ⟨[(1, .ptr false 0 0), (10, I (k : Int)), (11, LP ps), (12, I ((i + 1 : Nat) : Int))], [mcells m], gh⟩) (q50_ ?_) hrec
   simp only [mcells] at *
   simp only [q50]
   simp [hltD, h6, k6]
theorem RC_l7 {xs : List Int} (hl : m.nodes.length ≤ 1000) (hs : Sz xs.length) : ∀ n i, i + n = xs.length →
  runL pg q6w ⟨[(1, .ptr false 0 0), (14, .sl true 1 (xs.map I)), (15, I (i : Int))], [mcells m], gh⟩ =
   if (xs.drop i).any (fun a => !decide (isNo m.nodes a)) = true then some (.ret, ⟨[(2, I 5)], [], gh⟩) else some (.normal, ⟨[(1, .ptr false 0 0), (14, .sl true 1 (xs.map I))], [mcells m], gh⟩)
 | 0, i, h => by
  rw [List.drop_eq_nil_of_le (by omega), List.any_nil, if_neg (by simp)]
  have hlt : ¬ i < xs.length := by omega
  refine (ji7 (s1 := ?s1) (q51_ ?h1)).trans ?r1
  case h1 => simp only [q51]; simp [hlt]; rfl
  case r1 => simp [keep, stays]
 | n + 1, i, h => by
  have hlt : i < xs.length := by omega
  have hltD : decide (i < xs.length) = true := decide_eq_true hlt
  have e2 : IntKind.i64.wrap ((i : Int) + 1) = ((i + 1 : Nat) : Int) := jip (by simp only [Sz] at hs ⊢; omega)
  have hg : (xs.map I)[i]? = some (I xs[i]) := by simp [List.getElem?_eq_getElem hlt]
  have hb := jmp (m := m) (gh := gh) hl xs[i]
  generalize hw : IntKind.i64.wrap ((m.nodes.length : Int) - 1) = w at *
  have hrec := RC_l7 hl hs n (i + 1) (by omega)
  rw [List.drop_eq_getElem_cons hlt, List.any_cons]
  generalize xs[i] = a at *
  by_cases hn : isNo m.nodes a
  ·rw [decide_eq_true hn] at hb ⊢
   rw [Bool.not_true, Bool.false_or]
   refine ji4 (s1 := ⟨[(1, .ptr false 0 0), (14, .sl true 1 (xs.map I)), (15, I ((i + 1 : Nat) : Int))], [mcells m], gh⟩) (q51_ ?_) hrec
   simp only [q51]
   simp [hltD, hg, hw, hb, e2, -List.getElem?_map]
  ·rw [decide_eq_false hn] at hb ⊢
   rw [Bool.not_false, Bool.true_or, if_pos rfl]
   refine lp_ret (q51_ ?_)
   simp only [q51]
   simp [hltD, hg, hw, hb, -List.getElem?_map]
theorem RC_l8 {xs : List Int} (hn : ∀ a ∈ xs, isNo m.nodes a) (hs : Sz xs.length) : ∀ n i, i + n = xs.length →
  runL pg q2b ⟨[(1, .ptr false 0 0), (14, .sl true 1 (xs.map I)), (16, I (i : Int))], [mcells m], gh⟩ =
   if (xs.drop i).any (fun a => !decide (wAt m.nodes a = 1)) = true then some (.ret, ⟨[(2, I 1)], [], gh⟩) else some (.normal, ⟨[], [], gh⟩)
 | 0, i, h => by
  rw [List.drop_eq_nil_of_le (by omega), List.any_nil, if_neg (by simp)]
  have hlt : ¬ i < xs.length := by omega
  refine (ji7 (s1 := ?s1) (q52_ ?h1)).trans ?r1
  case h1 => simp only [q52]; simp [hlt]; rfl
  case r1 => simp [keep]
 | n + 1, i, h => by
  have hlt : i < xs.length := by omega
  have hltD : decide (i < xs.length) = true := decide_eq_true hlt
  have e2 : IntKind.i64.wrap ((i : Int) + 1) = ((i + 1 : Nat) : Int) := jip (by simp only [Sz] at hs ⊢; omega)
  have hg : (xs.map I)[i]? = some (I xs[i]) := by simp [List.getElem?_eq_getElem hlt]
  have hno := hn _ (List.getElem_mem hlt)
  have hn1 := jis hno
  have h0 := hno.1
  have hrec := RC_l8 hn hs n (i + 1) (by omega)
  rw [List.drop_eq_getElem_cons hlt, List.any_cons]
  generalize xs[i] = a at *
  unfold wAt at hrec ⊢
  generalize m.nodes.getD a.toNat default = d at *
  rw [jik d] at hn1
  by_cases hw : d.w = 1
  ·rw [decide_eq_true hw, Bool.not_true, Bool.false_or]
   refine ji4 (s1 := ⟨[(1, .ptr false 0 0), (14, .sl true 1 (xs.map I)), (16, I ((i + 1 : Nat) : Int))], [mcells m], gh⟩) (q52_ ?_) hrec
   simp only [q52]
   simp [hltD, hg, h0, hn1, hw, e2, -List.getElem?_map]
  ·rw [decide_eq_false hw, Bool.not_false, Bool.true_or, if_pos rfl]
   refine lp_ret (q52_ ?_)
   simp only [q52]
   simp [hltD, hg, h0, hn1, hw, -List.getElem?_map]
end
end Go.Lw
end

/-! Models: the whole check (the document). -/
section
namespace Go.Lw
open Go
section
variable {m : Md} {gh : List GObj}
theorem RC_l2 {f : List Bool} (hf : f.length = m.nodes.length) (hl : m.nodes.length ≤ 1000) (h1 : Sz m.inits.length) (h2 : Sz m.nexts.length) :
  runL pg q6t ⟨[(1, .ptr false 0 0), (5, .sl false 1 (f.map B)), (6, I 0)], [mcells m], gh⟩ =
   if pairsE m.nodes f true m.inits ≠ 0 then some (.ret, ⟨[(2, I (pairsE m.nodes f true m.inits))], [], gh⟩)
   else if pairsE m.nodes f false m.nexts ≠ 0 then some (.ret, ⟨[(2, I (pairsE m.nodes f false m.nexts))], [], gh⟩)
   else some (.normal, ⟨[(1, .ptr false 0 0)], [mcells m], gh⟩) := by
 have l1 := RC_l3 (gh := gh) (m := m) (ps := m.inits) (k := 0) hf hl h1 m.inits.length 0 (by omega)
 have l2 := RC_l3 (gh := gh) (m := m) (ps := m.nexts) (k := 1) hf hl h2 m.nexts.length 0 (by omega)
 rw [List.drop_zero] at l1 l2
 simp only [Int.natCast_zero, decide_true] at l1 l2
 rw [show decide (1 = 0) = false from rfl] at l2
 simp only [Int.natCast_one] at l1 l2
 have w1 : IntKind.i64.wrap (0 + 1) = 1 := by decide
 have w2 : IntKind.i64.wrap (1 + 1) = 2 := by decide
 generalize f.map B = F at *
 have k3 : ∀ x, runL pg q28 ⟨[(1, .ptr false 0 0), (5, .sl false 1 F), (6, I x)], [mcells m], gh⟩ = some (.normal, ⟨[(1, .ptr false 0 0), (5, .sl false 1 F), (6, I (IntKind.i64.wrap (x + 1)))], [mcells m], gh⟩) := fun x => by
  refine qet_ ?_
  simp [qet]
 have k2 : ∀ x ps e s, runL pg q26 ⟨[(1, .ptr false 0 0), (5, .sl false 1 F), (6, I x), (7, LP ps), (8, I 0)], [mcells m], gh⟩ = some (e, s) → runL pg q27 ⟨[(1, .ptr false 0 0), (5, .sl false 1 F), (6, I x), (7, LP ps)], [mcells m], gh⟩ = some (e, s) := fun x ps e s h => by
  refine qes_ ?_
  simp only [mcells] at *
  simp [qes, h]
 by_cases e1 : pairsE m.nodes f true m.inits = 0
 ·rw [if_pos e1] at l1
  rw [if_neg (fun h => h e1)]
  have k30 := k3 0
  rw [w1] at k30
  have k20 := k2 _ _ _ _ l1
  refine ji4 (s1 := ⟨[(1, .ptr false 0 0), (5, .sl false 1 F), (6, I 1)], [mcells m], gh⟩) (q1s_ (by
   simp only [mcells] at *
   simp [q1s, k20, k30])) ?_
  by_cases e2 : pairsE m.nodes f false m.nexts = 0
  ·rw [if_pos e2] at l2
   rw [if_neg (fun h => h e2)]
   have k31 := k3 1
   rw [w2] at k31
   have k21 := k2 _ _ _ _ l2
   refine ji4 (s1 := ⟨[(1, .ptr false 0 0), (5, .sl false 1 F), (6, I 2)], [mcells m], gh⟩) (q1s_ (by
    simp only [mcells] at *
    simp [q1s, k21, k31])) ?_
   refine (ji7 (s1 := ?s1) (q1s_ ?h1)).trans ?r1
   case h1 => simp [q1s]; rfl
   case r1 => simp [keep, stays]
  ·rw [if_neg e2] at l2
   rw [if_pos e2]
   have k21 := k2 _ _ _ _ l2
   refine lp_ret (q1s_ ?_)
   simp only [mcells] at *
   simp [q1s, k21]
 ·rw [if_neg e1] at l1
  rw [if_pos e1]
  have k20 := k2 _ _ _ _ l1
  refine lp_ret (q1s_ ?_)
  simp only [mcells] at *
  simp [q1s, k20]
theorem RC_l4 (h1 : Sz m.inits.length) (h2 : Sz m.nexts.length) :
  runL pg q6v ⟨[(1, .ptr false 0 0), (10, I 0)], [mcells m], gh⟩ =
   if twice m.inits ∨ twice m.nexts then some (.ret, ⟨[(2, I 6)], [], gh⟩) else some (.normal, ⟨[(1, .ptr false 0 0)], [mcells m], gh⟩) := by
 have l1 := RC_l5 (gh := gh) (m := m) (ps := m.inits) (k := 0) h1 m.inits.length 0 (by omega)
 have l2 := RC_l5 (gh := gh) (m := m) (ps := m.nexts) (k := 1) h2 m.nexts.length 0 (by omega)
 rw [List.drop_zero, List.take_zero, jwl] at l1 l2
 simp only [Int.natCast_zero, Int.natCast_one, decide_eq_true_eq] at l1 l2
 have w1 : IntKind.i64.wrap (0 + 1) = 1 := by decide
 have w2 : IntKind.i64.wrap (1 + 1) = 2 := by decide
 have k7 : ∀ x, runL pg q2a ⟨[(1, .ptr false 0 0), (10, I x)], [mcells m], gh⟩ = some (.normal, ⟨[(1, .ptr false 0 0), (10, I (IntKind.i64.wrap (x + 1)))], [mcells m], gh⟩) := fun x => by
  refine qew_ ?_
  simp [qew]
 have k5 : ∀ x ps e s, runL pg q3x ⟨[(1, .ptr false 0 0), (10, I x), (11, LP ps), (12, I 0)], [mcells m], gh⟩ = some (e, s) → runL pg q29 ⟨[(1, .ptr false 0 0), (10, I x), (11, LP ps)], [mcells m], gh⟩ = some (e, s) := fun x ps e s h => by
  refine qev_ ?_
  simp only [mcells] at *
  simp [qev, h]
 by_cases t1 : twice m.inits
 ·rw [if_pos t1] at l1
  rw [if_pos (.inl t1)]
  have k50 := k5 _ _ _ _ l1
  refine lp_ret (q1t_ ?_)
  simp only [mcells] at *
  simp [q1t, k50]
 ·rw [if_neg t1] at l1
  have k50 := k5 _ _ _ _ l1
  have k70 := k7 0
  rw [w1] at k70
  refine ji4 (s1 := ⟨[(1, .ptr false 0 0), (10, I 1)], [mcells m], gh⟩) (q1t_ (by
   simp only [mcells] at *
   simp [q1t, k50, k70])) ?_
  by_cases t2 : twice m.nexts
  ·rw [if_pos t2] at l2
   rw [if_pos (.inr t2)]
   have k51 := k5 _ _ _ _ l2
   refine lp_ret (q1t_ ?_)
   simp only [mcells] at *
   simp [q1t, k51]
  ·rw [if_neg t2] at l2
   rw [if_neg (by rintro (h | h) <;> contradiction)]
   have k51 := k5 _ _ _ _ l2
   have k71 := k7 1
   rw [w2] at k71
   refine ji4 (s1 := ⟨[(1, .ptr false 0 0), (10, I 2)], [mcells m], gh⟩) (q1t_ (by
    simp only [mcells] at *
    simp [q1t, k51, k71])) ?_
   refine (ji7 (s1 := ?s1) (q1t_ ?h1)).trans ?r1
   case h1 => simp [q1t]; rfl
   case r1 => simp [keep, stays]
def marksR (m : Md) : Int :=
 if m.nexts.length ≠ (kindL m.nodes 3).length then 5 else if (m.bads ++ m.holds).any (fun a => !decide (isNo m.nodes a)) then 5
 else if (m.bads ++ m.holds).any (fun a => !decide (wAt m.nodes a = 1)) then 1 else 0
theorem RC_k8 (hl : m.nodes.length ≤ 1000) (h1 : m.bads.length ≤ 100) (h2 : m.holds.length ≤ 100) :
  runL pg q3y ⟨[(1, .ptr false 0 0)], [mcells m], gh⟩ = some (.ret, ⟨[(2, I (marksR m))], [], gh⟩) := by
 have ho := jke (m := m) (gh := gh) (kind := 3) (by omega)
 rw [ji9] at ho
 have hm : maxBytes = 140737488355328 := rfl
 have hm1 : m.bads.length * 8 ≤ maxBytes := by omega
 have hm2 : (m.bads.length + m.holds.length) * 8 ≤ maxBytes := by omega
 have hsz : Sz (m.bads ++ m.holds).length := by simp only [Sz, List.length_append]; omega
 have l7 := RC_l7 (m := m) (gh := gh) (xs := m.bads ++ m.holds) hl hsz (m.bads ++ m.holds).length 0 (by omega)
 have l8 : (∀ a ∈ m.bads ++ m.holds, isNo m.nodes a) → _ := fun hn => RC_l8 (m := m) (gh := gh) (xs := m.bads ++ m.holds) hn hsz (m.bads ++ m.holds).length 0 (by omega)
 rw [List.drop_zero] at l7
 rw [List.drop_zero] at l8
 simp only [Int.natCast_zero] at l7 l8
 have hnb : (m.bads ++ m.holds).any (fun a => !decide (isNo m.nodes a)) = false → ∀ a ∈ m.bads ++ m.holds, isNo m.nodes a := fun h a ha => by
  have := List.any_eq_false.1 h a ha
  simpa using this
 unfold marksR
 generalize (m.bads ++ m.holds).any (fun a => !decide (isNo m.nodes a)) = p1 at *
 generalize (m.bads ++ m.holds).any (fun a => !decide (wAt m.nodes a = 1)) = p2 at *
 generalize hK : kindL m.nodes 3 = K at *
 have hKl : (K.map I).length = K.length := by simp
 have hXl : (m.nexts.map andV).length = m.nexts.length := by simp
 have hBl : (m.bads.map I).length = m.bads.length := by simp
 have hHl : (m.holds.map I).length = m.holds.length := by simp
 have k10 := qhm_ (pg := pg) (gh := gh) (e := .ret) (s := ⟨[(2, I 0)], [], gh⟩) rfl
 have k9r : ∀ M s, runL pg q2b ⟨[(1, .ptr false 0 0), (14, .sl true 1 M), (16, I 0)], [mcells m], gh⟩ = some (.ret, s) → runL pg q2c ⟨[(1, .ptr false 0 0), (14, .sl true 1 M)], [mcells m], gh⟩ = some (.ret, s) := fun M s h => by
  simp only [mcells] at *
  refine q94_ ?_
  simp [q94, h]
 have k9n : ∀ M, runL pg q2b ⟨[(1, .ptr false 0 0), (14, .sl true 1 M), (16, I 0)], [mcells m], gh⟩ = some (.normal, ⟨[], [], gh⟩) → runL pg q2c ⟨[(1, .ptr false 0 0), (14, .sl true 1 M)], [mcells m], gh⟩ = some (.ret, ⟨[(2, I 0)], [], gh⟩) := fun M h => by
  simp only [mcells] at *
  refine q94_ ?_
  simp [q94, h, k10]
 refine q36_ ?_
 simp only [List.map_append] at l7 l8
 simp only [LI, mcells] at *
 generalize m.bads.map I = M1 at *
 generalize m.holds.map I = M2 at *
 generalize K.map I = K' at *
 generalize m.nexts.map andV = X' at *
 by_cases e1 : m.nexts.length = K.length
 ·rw [if_neg (fun h => h e1)]
  cases p1 with
  | true =>
   rw [if_pos rfl] at l7 ⊢
   simp [q36, ho, hKl, hXl, e1, hBl, hHl, hm1, hm2, l7]
  | false =>
   rw [if_neg (by simp)] at l7 ⊢
   have l8 := l8 (hnb rfl)
   cases p2 with
   | true =>
    rw [if_pos rfl] at l8 ⊢
    have k9 := k9r _ _ l8
    simp [q36, ho, hKl, hXl, e1, hBl, hHl, hm1, hm2, l7, k9]
   | false =>
    rw [if_neg (by simp)] at l8 ⊢
    have k9 := k9n _ l8
    simp [q36, ho, hKl, hXl, e1, hBl, hHl, hm1, hm2, l7, k9]
 ·rw [if_pos e1]
  have e1' : ¬ (m.nexts.length : Int) = (K.length : Int) := by omega
  simp [q36, ho, hKl, hXl, e1']
theorem jwm {f : List Bool} (h : pairsAll m f = 0) : marksR m = marksE m := by
 unfold pairsAll at h
 split at h
 ·contradiction
 split at h
 ·contradiction
 rename_i h1 h2
 split at h
 ·contradiction
 rename_i h3
 have hd : (m.nexts.map (·.1)).Nodup := by
  have := fun h => h3 (.inr h)
  unfold twice at this
  exact Classical.byContradiction this
 have hz : ∀ (l : List (Int × Int)), pairsE m.nodes f false l = 0 → ∀ p ∈ l, p.1 ∈ kindL m.nodes 3 := by
  intro l
  induction l with
  | nil => intro _ p hp; simp at hp
  | cons q l ih =>
   intro hq p hp
   rw [pairsE] at hq
   split at hq
   ·rename_i hq0
    rcases List.mem_cons.1 hp with rfl | hp
    ·unfold pairE at hq0
     split at hq0
     ·contradiction
     rename_i hn
     have hi : isNo m.nodes p.1 := Classical.byContradiction fun h => hn (.inl h)
     have hk : (m.nodes.getD p.1.toNat default).k = 3 := Classical.byContradiction fun h => hn (.inr (.inr h))
     refine kindF_mem.2 ⟨p.1.toNat, hi.2, ?_, ?_⟩
     ·have := hi.1; omega
     ·rw [List.getD_eq_getElem?_getD, List.getElem?_eq_getElem hi.2] at hk
      rw [List.getElem?_eq_getElem hi.2]
      simpa using hk
    ·exact ih hq p hp
   ·contradiction
 have hle : m.nexts.length ≤ (kindL m.nodes 3).length := by
  have := List.Nodup.length_le_of_subset hd (l₂ := kindL m.nodes 3) (fun a ha => by
   obtain ⟨p, hp, rfl⟩ := List.mem_map.1 ha
   exact hz _ (by simpa using h2) p hp)
  simpa using this
 unfold marksR marksE
 by_cases he : m.nexts.length = (kindL m.nodes 3).length
 ·rw [if_neg (c := m.nexts.length ≠ _) (fun h => h he), if_neg (c := m.nexts.length < _) (by omega)]
 ·rw [if_pos he, if_pos (by omega)]
theorem jwn (h1 : Sz m.inits.length) (h2 : Sz m.nexts.length) : callL pg 36 [modelV m] gh = some (I (checkE m), gh) := by
 unfold checkE
 have hNl : (m.nodes.map nodeV).length = m.nodes.length := by simp
 have hBl : (m.bads.map I).length = m.bads.length := by simp
 have hHl : (m.holds.map I).length = m.holds.length := by simp
 rw [ji9]
 by_cases c1 : m.nodes.length > 80 ∨ m.bads.length > 8 ∨ m.holds.length > 8
 ·rw [if_pos c1]
  refine ji3 (fn := qr) (s := ⟨[(2, I 2)], [], gh⟩) rfl rfl (q1f_ ?h1) ?r1
  case r1 => simp [finish, results, qr, resOfs, resOf, resOk]
  case h1 =>
   by_cases d1 : (80 : Int) < (m.nodes.length : Int)
   ·simp [q1f, d1]
   ·by_cases d2 : (8 : Int) < (m.bads.length : Int)
    ·simp [q1f, d1, d2]
    ·have d3 : (8 : Int) < (m.holds.length : Int) := by omega
     simp [q1f, d1, d2, d3]
 ·rw [if_neg c1]
  have d1 : ¬ (80 : Int) < (m.nodes.length : Int) := by omega
  have d2 : ¬ (8 : Int) < (m.bads.length : Int) := by omega
  have d3 : ¬ (8 : Int) < (m.holds.length : Int) := by omega
  have hl := RC_l1 (m := m) (gh := gh) (by omega) m.nodes.length 0 (by omega)
  rw [List.drop_zero] at hl
  simp only [Int.natCast_zero, mcells] at hl
  by_cases hn : nodesE m.nodes 0 m.nodes = 0
  ·rw [if_neg (fun h => h hn)]
   rw [if_pos hn] at hl
   have hb2 := jpr (m := m) (gh := gh) (kind := 2) (by omega)
   have hb3 := jpr (m := m) (gh := gh) (kind := 3) (by omega)
   have hlen := jwk (m := m) (gh := gh) (jmm hn) (by omega)
   rw [ji9] at hb2 hb3 hlen
   have hf : (hangF [] m.nodes).length = m.nodes.length := by simpa using jmj [] m.nodes
   have l2 := RC_l2 (gh := gh) hf (by omega) h1 h2
   have l4 := RC_l4 (m := m) (gh := gh) h1 h2
   have k8 := RC_k8 (m := m) (gh := gh) (by omega) (by omega) (by omega)
   have hme := jwm (m := m) (f := hangF [] m.nodes)
   unfold pairsAll at hme ⊢
   simp only [mcells] at *
   generalize (hangF [] m.nodes).map B = F at *
   generalize pairsE m.nodes (hangF [] m.nodes) true m.inits = r1 at *
   generalize pairsE m.nodes (hangF [] m.nodes) false m.nexts = r2 at *
   by_cases hbt : bitsK m.nodes 2 > 6 ∨ bitsK m.nodes 3 > 10
   ·rw [if_pos hbt]
    have k1 : runL pg q2e ⟨[(1, .ptr false 0 0)], [[LN m.nodes, LP m.inits, LP m.nexts, LI m.bads, LI m.holds]], gh⟩ = some (.ret, ⟨[(2, I 2)], [], gh⟩) := by
     refine q1e_ ?_
     by_cases b1 : 6 < bitsK m.nodes 2
     ·simp [q1e, hb2, b1]
     ·have b2 : 10 < bitsK m.nodes 3 := by omega
      simp [q1e, hb2, hb3, b1, b2]
    refine ji3 (fn := qr) (s := ⟨[(2, I 2)], [], gh⟩) rfl rfl (q1f_ ?h2) ?r2
    case r2 => simp [finish, results, qr, resOfs, resOf, resOk]
    case h2 => simp [q1f, d1, d2, d3, hl, k1]
   ·rw [if_neg hbt]
    have b1 : ¬ 6 < bitsK m.nodes 2 := by omega
    have b2 : ¬ 10 < bitsK m.nodes 3 := by omega
    have fin : ∀ r, runL pg q2e ⟨[(1, .ptr false 0 0)], [[LN m.nodes, LP m.inits, LP m.nexts, LI m.bads, LI m.holds]], gh⟩ = some (.ret, ⟨[(2, I r)], [], gh⟩) → callL pg 36 [.agg [LN m.nodes, LP m.inits, LP m.nexts, LI m.bads, LI m.holds]] gh = some (I r, gh) := fun r k1 => by
     refine ji3 (fn := qr) (s := ⟨[(2, I r)], [], gh⟩) rfl rfl (q1f_ ?h3) ?r3
     case r3 => simp [finish, results, qr, resOfs, resOf, resOk]
     case h3 => simp [q1f, d1, d2, d3, hl, k1]
    by_cases e1 : r1 = 0
    ·rw [if_neg (fun h => h e1)] at l2
     by_cases e2 : r2 = 0
     ·rw [if_neg (fun h => h e2)] at l2
      by_cases ht : twice m.inits ∨ twice m.nexts
      ·rw [if_pos ht] at l4
       have k4 : runL pg q2d ⟨[(1, .ptr false 0 0)], [[LN m.nodes, LP m.inits, LP m.nexts, LI m.bads, LI m.holds]], gh⟩ = some (.ret, ⟨[(2, I 6)], [], gh⟩) := by
        refine q95_ ?_
        simp [q95, l4]
       simp only [e1, e2, ht, if_true, ne_eq, not_true, if_false]
       refine fin 6 (q1e_ ?_)
       simp [q1e, hb2, hb3, b1, b2, hlen, l2, k4]
      ·rw [if_neg ht] at l4
       have k4 : runL pg q2d ⟨[(1, .ptr false 0 0)], [[LN m.nodes, LP m.inits, LP m.nexts, LI m.bads, LI m.holds]], gh⟩ = some (.ret, ⟨[(2, I (marksR m))], [], gh⟩) := by
        refine q95_ ?_
        simp [q95, l4, k8]
       simp only [e1, e2, ht, if_true, ne_eq, not_true, if_false] at hme ⊢
       rw [← hme trivial]
       refine fin _ (q1e_ ?_)
       simp [q1e, hb2, hb3, b1, b2, hlen, l2, k4]
     ·rw [if_pos e2] at l2
      simp only [e1, e2, ne_eq, not_true, not_false_iff, if_false, if_true]
      refine fin _ (q1e_ ?_)
      simp [q1e, hb2, hb3, b1, b2, hlen, l2]
    ·rw [if_pos e1] at l2
     simp only [e1, ne_eq, not_true, not_false_iff, if_true]
     refine fin _ (q1e_ ?_)
     simp [q1e, hb2, hb3, b1, b2, hlen, l2]
  ·rw [if_pos hn]
   rw [if_neg hn] at hl
   generalize nodesE m.nodes 0 m.nodes = r at *
   refine ji3 (fn := qr) (s := ⟨[(2, I r)], [], gh⟩) rfl rfl (q1f_ ?h5) ?r5
   case r5 => simp [finish, results, qr, resOfs, resOf, resOk]
   case h5 => simp [q1f, d1, d2, d3, hl]
end
end Go.Lw
end

/-! Clauses: what the document makes and checks. -/
section
namespace Go.Lw
open Go
abbrev LLI (cls : List (List Int)) : List PV := cls.map fun l => LI l
section
variable {ins : Int} {ands : List (Int × Int)} {gh : List GObj}
theorem jpu {v : List Int} (hs : Sz v.length) : ∀ k i, i + k = v.length →
  runL pg q71 ⟨[(0, LI v), (1, LI v), (5, I (i : Int))], [], gh⟩ = some (.normal, ⟨[], [], gh⟩)
 | 0, i, h => by
  have hlt : ¬ i < v.length := by omega
  refine (ji7 (s1 := ?s1) (q97_ ?h1)).trans ?r1
  case h1 => simp [q97, hlt]; rfl
  case r1 => simp [keep]
 | k + 1, i, h => by
  have hlt : i < v.length := by omega
  have e3 : IntKind.i64.wrap ((i : Int) + 1) = ((i + 1 : Nat) : Int) := jip (by simp only [Sz] at hs ⊢; omega)
  refine ji4 (s1 := ⟨[(0, LI v), (1, LI v), (5, I ((i + 1 : Nat) : Int))], [], gh⟩) (q97_ ?h2) (jpu hs k (i + 1) (by omega))
  case h2 => simp [q97, hlt, e3]
theorem jwo {v : List Int} (hs : Sz v.length) : callL pg 46 [LI v, LI v] gh = some (B true, gh) := by
 have h := jpu (gh := gh) hs v.length 0 (by omega)
 simp only [Int.natCast_zero] at h
 have hk := qhn_ (pg := pg) (gh := gh) (e := .ret) (s := ⟨[(4, B true)], [], gh⟩) rfl
 refine ji3 (fn := q73) (s := ?s1) rfl rfl (qex_ ?h1) ?r1
 case h1 => simp [qex, h, hk]; rfl
 case r1 => simp [finish, results, q73, resOfs, resOf, resOk]
theorem jpv {cls : List (List Int)} (hs : SL cls) (hz : Sz cls.length) : ∀ k i, i + k = cls.length →
  runL pg q7e ⟨[(0, .sl false 1 (LLI cls)), (1, .sl false 1 (LLI cls)), (5, I (i : Int))], [], gh⟩ = some (.normal, ⟨[], [], gh⟩)
 | 0, i, h => by
  have hlt : ¬ i < cls.length := by omega
  refine (ji7 (s1 := ?s1) (q99_ ?h1)).trans ?r1
  case h1 => simp [q99, hlt]; rfl
  case r1 => simp [keep]
 | k + 1, i, h => by
  have hlt : i < cls.length := by omega
  have e3 : IntKind.i64.wrap ((i : Int) + 1) = ((i + 1 : Nat) : Int) := jip (by simp only [Sz] at hz ⊢; omega)
  have hx : (cls.map fun l => LI l)[i]? = some (LI cls[i]) := by simp [List.getElem?_eq_getElem hlt]
  have h1 := jwo (gh := gh) (hs _ (List.getElem_mem hlt))
  refine ji4 (s1 := ⟨[(0, .sl false 1 (LLI cls)), (1, .sl false 1 (LLI cls)), (5, I ((i + 1 : Nat) : Int))], [], gh⟩) (q99_ ?h2) (jpv hs hz k (i + 1) (by omega))
  case h2 => simp [q99, hlt, hx, h1, e3, -List.getElem?_map]
theorem jwp {cls : List (List Int)} (hs : SL cls) (hz : Sz cls.length) : callL pg 95 [.sl false 1 (LLI cls), .sl false 1 (LLI cls)] gh = some (B true, gh) := by
 have h := jpv (gh := gh) hs hz cls.length 0 (by omega)
 simp only [Int.natCast_zero] at h
 have hk := qho_ (pg := pg) (gh := gh) (e := .ret) (s := ⟨[(4, B true)], [], gh⟩) rfl
 generalize LLI cls = L at *
 refine ji3 (fn := q7g) (s := ?s1) rfl rfl (qey_ ?h1) ?r1
 case h1 => simp [qey, h, hk]; rfl
 case r1 => simp [finish, results, q7g, resOfs, resOf, resOk]
end
end Go.Lw
end
