/-
  The texts that the proof stands on, part 19.
-/
import Derived.Test.YtmodipglnngghadGreatProveDifferentsR
import Derived.Shelf.Sort.Plain
import Derived.Shelf.Slices.In.SortNone
import Derived.Shelf.Slices.CompactI
set_option linter.unusedVariables false
set_option linter.unusedSimpArgs false
set_option linter.unnecessarySimpa false

/-! slices.Sort and slices.Compact of a stack of numbers. -/
section
namespace Go.Lw
open Go Go.Sort Go.Shelf Go.Proofs
section
variable {fi:FI} {P:Program} {ρ:Ren}
theorem tup_at (fi:FI) (M:Mem) (w:World):RepAt fi M w Loc.res (.tup []) (.tuple #[]):=⟨[],rfl,rfl,fun i c u h=>by simp at h⟩
theorem j16e (L:Lays.n189 P ρ) (vs:List PV) (gh:List GObj) (r:PV) (gh':List GObj) (h:libSortK vs gh=some (r,gh')):CallOk P fi (ρ.f 189) vs gh r gh':=by
 intro M w args hG hlb hown hlen hrep
 unfold libSortK at h
 split at h
 ·rename_i b gen n
  obtain⟨v,rfl⟩:=List.length_eq_one_iff.1 hlen
  have hv:=hrep 0 _ _ rfl rfl
  split at h
  case h_2=>cases h
  rename_i g xs hgh
  split at h
  case isFalse=>cases h
  rename_i hc
  obtain⟨rfl,rfl,hbd⟩:=hc
  rw[Option.map_eq_some_iff] at h
  obtain⟨zs,hzs,h⟩:=h
  cases h
  obtain⟨c,rfl,h1,h2,h3,h4,h5⟩:=jzk hG hgh hzs hv
  have hxl:xs.length=zs.length:=by rw[jtq hzs];simp
  have hbd':zs.length*8≤140737488355328:=by rw[←hxl];exact hbd
  refine (Any.slices_Sort_int L (M.st b).2.1 0 c zs w h3 h4 (by omega)).mono ?_
  rintro e w' ⟨rfl,n,os,hw⟩
  have h6:=h5 w' n os _ _ (by simp) (List.prefix_refl (zs.mergeSort fun x y=>decide (x≤y))) hw
  rw[←j13i] at h6
  exact⟨_,M,rfl,h6.1,hlb,rfl,tup_at _ _ _,h6.2⟩
 ·obtain⟨v,rfl⟩:=List.length_eq_one_iff.1 hlen
  cases h
  obtain⟨A,c,rfl⟩:∃A c,v= .slice A 0 c:=by
   rename_i o
   have hv:=hrep 0 _ _ rfl rfl
   cases hv
   exact⟨_,_,rfl⟩
  refine (Any.slices_Sort_int_none L A c w).mono ?_
  rintro e w' ⟨rfl,rfl⟩
  exact⟨_,M,rfl,hG,hlb,rfl,tup_at _ _ _,Kp.refl _ _⟩
 ·cases h
theorem j16f (zs:List Int):(Lib.compact zs).length≤zs.length:=by
 unfold Lib.compact Lib.compactUpTo
 rw[List.length_map]
 exact Nat.le_trans (List.length_filter_le _ _) (by simp)
theorem j16g (L:Lays2.n20 P ρ) (vs:List PV) (gh:List GObj) (r:PV) (gh':List GObj) (h:libCompactK vs gh=some (r,gh')):CallOk P fi (ρ.f 20) vs gh r gh':=by
 intro M w args hG hlb hown hlen hrep
 unfold libCompactK at h
 split at h
 ·rename_i b gen n
  obtain⟨v,rfl⟩:=List.length_eq_one_iff.1 hlen
  have hv:=hrep 0 _ _ rfl rfl
  split at h
  case h_2=>cases h
  rename_i g xs hgh
  split at h
  case isFalse=>cases h
  rename_i hc
  obtain⟨rfl,rfl,hbd⟩:=hc
  rw[Option.map_eq_some_iff] at h
  obtain⟨zs,hzs,h⟩:=h
  cases h
  obtain⟨c,rfl,h1,h2,h3,h4,h5⟩:=jzk hG hgh hzs hv
  have hxl:xs.length=zs.length:=by rw[jtq hzs];simp
  have hbd':zs.length*8≤140737488355328:=by rw[←hxl];exact hbd
  have hcl:=j16f zs
  refine (Any.slices_Compact_int L (M.st b).2.1 0 c zs w h3 (by omega) h1).mono ?_
  rintro e w' ⟨rfl,n,hw⟩
  have h6:=h5 w' n #[] _ _ (by simp;omega) (List.prefix_append (Lib.compact zs) (List.replicate (zs.length-(Lib.compact zs).length) 0)) (by rw[hw,grow_empty])
  have hbl:b<gh.length:=(List.getElem?_eq_some_iff.1 hgh).1
  have hbg:b<M.gb.length:=by rw[hG.gbl];exact hbl
  obtain⟨_,o2,_⟩:RepStk fi M w b M.gb[b] g xs:=hG.gh b _ _ hgh (List.getElem?_eq_getElem hbg)
  exact⟨_,M,rfl,h6.1,hlb,rfl,(RepP.stk b g _ _ c hbg (by omega) (fun _=>⟨rfl,h2⟩) (by omega)).repE.repAt,h6.2⟩
 ·obtain⟨v,rfl⟩:=List.length_eq_one_iff.1 hlen
  cases h
  obtain⟨A,c,rfl⟩:∃A c,v= .slice A 0 c:=by
   rename_i o
   have hv:=hrep 0 _ _ rfl rfl
   cases hv
   exact⟨_,_,rfl⟩
  refine (Any.slices_Compact_int_empty L A c w).mono ?_
  rintro e w' ⟨rfl,rfl⟩
  exact⟨_,M,rfl,hG,hlb,rfl,(RepP.sl (fi:=fi) 1 [] A c 0 0 (fun _=>undef) (.inl rfl) (Nat.zero_le _) (by simp) (by simp) (fun i e j p h=>by simp at h) (fun i e j p h=>by simp at h)).repE.repAt,Kp.refl _ _⟩
 ·cases h
end
end Go.Lw
end
