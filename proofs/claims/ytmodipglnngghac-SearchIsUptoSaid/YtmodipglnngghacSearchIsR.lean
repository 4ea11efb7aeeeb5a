/-
  The texts that the proof stands on, part 18.
-/
import Derived.Test.YtmodipglnngghacSearchIsQ
import Derived.Sort.Grow
set_option linter.unusedVariables false
set_option linter.unusedSimpArgs false
set_option linter.unnecessarySimpa false

/-! A stack of numbers, handed over as a row of cells. -/
section
namespace Go.Lw
open Go Go.Sort
section
variable {fi : FI} {M M' : Mem} {w w' W : World} {P : Program}
theorem cell_heap_eq {b k : Nat} (h : W.heap[b]? = w.heap[b]?) : W.cell? ⟨b, k, none⟩ = w.cell? ⟨b, k, none⟩ := by
  simp [World.cell?, h]
theorem GI.restk {gh : List GObj} (hG : GI fi M w gh) {b gen : Nat} {xs zs : List PV} (hgh : gh[b]? = some (.stk gen xs)) {cs2 : Array Value} {T : TypeId} (hos : W.os = w.os) (htp : W.tape = w.tape) (hout : W.output = w.output)
    (hsz : w.heap.size ≤ W.heap.size) (hoth : ∀ k, k < w.heap.size → k ≠ (M.st b).2.1 → W.heap[k]? = w.heap[k]?) (hblk : W.heap[(M.st b).2.1]? = some (.cells cs2 T (0, 0))) (hcs : cs2.size = (M.st b).2.2) (hlen : zs.length ≤ cs2.size)
    (hf : ∀ x ∈ zs, isFlat x = true) (hr : ∀ (j : Nat) (x : PV), zs[j]? = some x → ∃ u, cs2[j]? = some u ∧ RepP fi M W x u) : GI fi M W (gh.set b (.stk gen zs)) ∧ Kp M w M W := by
  have hbl : b < gh.length := (List.getElem?_eq_some_iff.1 hgh).1
  have hbg : b < M.gb.length := by rw [hG.gbl]; exact hbl
  obtain ⟨o1, o2, o3, o4, o5, cs0, T0, o6, o7, o8, o9⟩ : RepStk fi M w b M.gb[b] gen xs := hG.gh b _ _ hgh (List.getElem?_eq_getElem hbg)
  have g : Good M w M W (fun l => l = Loc.gh b 0) (fun _ => False) := by
    refine ⟨⟨fun _ _ h => h, fun _ _ h => h, fun bb k h => ?_, fun _ _ => ⟨Nat.le_refl _, fun _ => rfl⟩⟩, hsz, fun _ _ h => h, fun bb l h hl => ?_, fun bb hb _ h => ?_, fun _ _ => rfl⟩
    · exact cell_heap_eq (hoth bb (hG.immlt bb k h) (fun e => o4 k (by rw [← e]; exact h)))
    · exact ⟨h, hoth bb (hG.ownlt bb l h) (fun e => hl (by rw [e, o3] at h; cases h; rfl)), fun _ h => h, id, id⟩
    · exact ⟨hoth bb hb (fun e => by rw [e, o3] at h; cases h), fun _ h => h, h⟩
  have k : Kp M w M W := ⟨hos, htp, hout, hsz, g.ext, fun i hi _ _ ho => hoth i hi (fun e => by rw [e, o3] at ho; cases ho), fun _ h => .inl h, fun _ h => .inl h, fun _ _ h => h, fun _ _ h => .inl h⟩
  refine ⟨⟨fun t v h => by simp [get] at h, rfl, hG.lbl, by simpa using hG.gbl, hG.nodup, fun i cs blk h => by simp at h, fun i o blk h1 h2 => ?_, g.ext.gl hG.gl, fun bb j h => Nat.lt_of_lt_of_le (hG.immlt bb j h) hsz, fun bb l h => Nat.lt_of_lt_of_le (hG.ownlt bb l h) hsz, fun bb h => Nat.lt_of_lt_of_le (hG.gblt bb h) hsz⟩, k⟩
  simp only at h1
  rw [List.getElem?_set] at h1
  by_cases hbi : b = i
  · subst hbi
    rw [if_pos rfl, if_pos hbl] at h1
    cases h1
    have eb : M.gb[b] = blk := by rw [List.getElem?_eq_getElem hbg] at h2; exact Option.some.inj h2
    exact ⟨by rw [← eb]; exact o1, o2, o3, o4, hf, cs2, T, hblk, hcs, hlen, hr⟩
  · rw [if_neg hbi] at h1
    exact (hG.gh i o blk h1 h2).good g id (fun j h => by injection h with h1 h2; exact hbi h1.symm)
theorem heap_row {w : World} {n blk : Nat} {d : Array Int} {os : Array Obj} (k : Nat) (hk : k < w.heap.size) : (grow (putRow (Value.int .i64) (Sort.ahead w n) blk 0 d) os).heap[k]? = if k = blk then w.heap[k]?.map (onCells (putCells (Value.int .i64) 0 d)) else w.heap[k]? := by
  have e : (grow (putRow (Value.int .i64) (Sort.ahead w n) blk 0 d) os).heap = w.heap.modify blk (onCells (putCells (Value.int .i64) 0 d)) ++ os := rfl
  rw [e, Array.getElem?_append_left (by simpa using hk), Array.getElem?_modify]
  by_cases h : k = blk
  · subst h; simp
  · simp [h, Ne.symm h]
theorem cells_row {d : Array Int} {cs : Array Value} (j : Nat) (hj : j < cs.size) : (putCells (Value.int .i64) 0 d cs)[j]? = if h : j < d.size then some (.int .i64 d[j]) else cs[j]? := by
  unfold putCells
  rw [Array.getElem?_mapIdx, Array.getElem?_eq_getElem hj]
  by_cases h : j < d.size <;> simp [h]
theorem stk_row {gh : List GObj} (hG : GI fi M w gh) {b gen : Nat} {xs : List PV} {zs : List Int} (hgh : gh[b]? = some (.stk gen xs)) (hu : unInts xs = some zs) {v : Value} (hv : RepP fi M w (.stk b gen xs.length) v) :
    ∃ c, v = .slice (some ⟨(M.st b).2.1, 0, none⟩) zs.length c ∧ zs.length ≤ c ∧ c ≤ (M.st b).2.2 ∧ Holds (Value.int .i64) w (M.st b).2.1 0 zs.toArray ∧ (M.st b).2.1 < w.heap.size ∧
      ∀ (W : World) (n : Nat) (os : Array Obj) (d ys : List Int), d.length = zs.length → ys <+: d → W = grow (putRow (Value.int .i64) (Sort.ahead w n) (M.st b).2.1 0 d.toArray) os →
        GI fi M W (gh.set b (.stk gen (ys.map (PV.int .i64)))) ∧ Kp M w M W := by
  have hbl : b < gh.length := (List.getElem?_eq_some_iff.1 hgh).1
  have hbg : b < M.gb.length := by rw [hG.gbl]; exact hbl
  obtain ⟨o1, o2, o3, o4, o5, cs, T, o6, o7, o8, o9⟩ : RepStk fi M w b M.gb[b] gen xs := hG.gh b _ _ hgh (List.getElem?_eq_getElem hbg)
  have hx := unInts_eq hu
  have hxl : xs.length = zs.length := by rw [hx]; simp
  have hlt : (M.st b).2.1 < w.heap.size := (Array.getElem?_eq_some_iff.1 o6).1
  cases hv with
  | stk _ _ _ blk c hb hg hA hc =>
  obtain ⟨rfl, hcc⟩ := hA o2.symm
  refine ⟨c, by rw [hxl], by omega, hcc, fun j hj => ?_, hlt, fun W n os d ys hd hys hW => ?_⟩
  · have hj' : j < zs.length := by simpa using hj
    obtain ⟨u, hu1, hu2⟩ := o9 j (.int .i64 zs[j]) (by rw [hx]; simp [hj'])
    cases hu2
    refine ⟨?_, ?_⟩
    · rw [Nat.zero_add]
      simp [World.cell?, o6, hu1, hj']
    · simp [World.frozen?, o6]
  · subst hW
    obtain ⟨rest, rfl⟩ := hys
    have hh := heap_row (n := n) (d := (ys ++ rest).toArray) (os := os) (blk := (M.st b).2.1) _ hlt
    rw [if_pos rfl, o6] at hh
    have hlen : (ys ++ rest).length ≤ cs.size := by omega
    refine hG.restk hgh (cs2 := putCells (Value.int .i64) 0 (ys ++ rest).toArray cs) (T := T) rfl rfl rfl ?_ (fun k hk hne => by rw [heap_row k hk, if_neg hne]) hh (by simpa [putCells] using o7) ?_ ?_ ?_
    · show _ ≤ (w.heap.modify _ _ ++ os).size
      simp
    · simp only [List.length_append] at hlen
      simp [putCells]; omega
    · intro x hx
      obtain ⟨z, _, rfl⟩ := List.mem_map.1 hx
      rfl
    · intro j x hj
      rw [List.getElem?_map, Option.map_eq_some_iff] at hj
      obtain ⟨z, hz, rfl⟩ := hj
      have hjl := (List.getElem?_eq_some_iff.1 hz).1
      simp only [List.length_append] at hlen
      refine ⟨.int .i64 z, ?_, .int _ _⟩
      rw [cells_row j (by omega), dif_pos (by simp; omega)]
      simp only [List.getElem_toArray]
      rw [List.getElem_append_left hjl]
      rw [List.getElem?_eq_getElem hjl] at hz
      rw [Option.some.inj hz]
end
end Go.Lw
end
