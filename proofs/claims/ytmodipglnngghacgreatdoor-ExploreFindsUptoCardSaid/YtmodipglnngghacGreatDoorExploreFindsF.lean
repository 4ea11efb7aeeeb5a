/-
  The texts that the proof stands on, part 6.
-/
import Derived.Test.YtmodipglnngghacGreatDoorExploreFindsE
set_option linter.unusedVariables false
set_option linter.unusedSimpArgs false
set_option linter.unnecessarySimpa false

set_option maxRecDepth 100000
set_option maxHeartbeats 4000000
namespace Go.Lw
open Go
section
variable {R:Type} {nl:Nat} {x:Option R}
@[simp] theorem stK_yl (b : Nat) : stK nl (.yl b) x = x := rfl
@[simp] theorem isC_yl (b : Nat) : isC (.yl b) x = x := rfl
@[simp] theorem onK_yl (b : Nat) : onK (.yl b) x = x := rfl
@[simp] theorem arK_yl (b : Nat) : arK (.yl b) x = x := rfl
@[simp] theorem degr_yl (b : Nat) : degr (.yl b) = .yl b := rfl
@[simp] theorem degr1_yl (b : Nat) : aa (.yl b) = .yl b := rfl
@[simp] theorem tailX_sl (xs : List PV) (lo : Nat) (f : PV -> PV -> Option R) : kW (.sl true 1 xs) lo f = if lo <= xs.length then f (.sl false 1 xs) (.sl true 1 (xs.drop lo)) else none := rfl
theorem yZ {cf:CallF} {gh gh':List GObj} {b y:Nat} {vs caps:List PV} {f:List GObj->Option R} (hb:gh[b]?=some (.lrec 1 y caps)) (h1:caps.all ah=true) (h2:vs.all ah=true) (hc:cf y (caps++vs++[.yl b]) gh=some (.bool true,gh')) :
  ylC cf gh (.yl b) vs f=f gh':=by
 show (match gh[b]? with
   |some (.lrec 1 y caps)=>dG caps (dG vs (match cf y (caps++vs++[.yl b]) gh with
    |some (.bool true,gh')=>f gh'
    |_=>none))
   |_=>none)=f gh'
 rw[hb];simp only;rw[jQ h1,jQ h2,hc]
end
theorem rC {pg:Prg} {g:IX} {y F:Nat} {ks:List Nat} {e:List (Nat×PV)} {lh:List (List PV)} {gh gh':List GObj} {caps vs:List PV} (hg:ai e g=some (.fn F caps)) (hv:cv e (ks.map IX.t)=some vs) (hok:(vs++caps).all ah=true)
  (hc:af pg F (.yl gh.length::caps) (gh++[.lrec 1 y vs])=some (.tup [],gh')) (hr:gh'[gh.length]?=some (.lrec 1 y vs)):ac pg (.rangeF g y ks) ⟨e,lh,gh⟩=some (.normal,⟨e,lh,gh'.set gh.length (.lrec 0 y vs)⟩):=by
 rw[uw,fc];simp only[hg,hv,cC];rw[if_pos hok];simp only[hc];rw[if_pos hr];rfl
theorem rD {pg:Prg} {y b:Nat} {Y:IYl} {caps:List PV} {v:PV} {gh:List GObj} {s1 s2:St} (hp:pg y=some (.yl Y)) (hl:caps.length=Y.ks.length) (hb:gh[b]?=some (.lrec 1 y caps))
  (h1:ac pg Y.as ⟨(Y.ks++[Y.t]).zip (caps++[v]++[.yl b]),[],gh⟩=some (.normal,s1)) (hb1:s1.gh[b]?=some (.lrec 1 y caps)) (h2:ac pg Y.body ⟨s1.env,s1.lh,s1.gh.set b (.lrec 2 y caps)⟩=some (.normal,s2)) (hb2:s2.gh[b]?=some (.lrec 2 y caps)) :
  af pg y (caps++[v]++[.yl b]) gh=some (.bool true,s2.gh.set b (.lrec 1 y caps)):=by
 rw[oI];unfold cV;rw[hp];simp only;unfold gG;have e1:(caps++[v]++[PV.yl b])[Y.ks.length+1]?=some (.yl b):=by rw[aR (by simp;omega)];simp[hl]
 have e2:(caps++[v]++[PV.yl b]).take Y.ks.length=caps:=by rw[aY,List.take_append_of_le_length (by omega),<-hl,List.take_length]
 have e3:(caps++[v]++[PV.yl b]).length=Y.ks.length+2:=by simp[hl]
 rw[e1];simp only[e2];rw[if_pos ⟨e3,by rw[e2];exact hb⟩,h1];simp only;rw[if_pos (by rw[e2];exact hb1),h2];simp only;rw[if_pos (by rw[e2];exact hb2)]
def gV (z bytes:Nat):List PV->List GObj->Option (PV×List GObj)
 |[.nils,.int .i64 n],gh=>if 0<=n/\n.toNat*bytes<=maxBytes then some (.sl true z [],gh) else none
 |_,_=>none
def q6j:ICode:=(.post (.seq (.region [oW 17 16 15] false) (.seq (.cond 17 .skip (.exit 0)) (.seq (.block 1 (sR [oM 18 16,oA 19 14 16,oL 20 19,oM 7 18,oM 8 20] [2,3,7,8,14,15,16] 1 (sQ [oM 21 2,oM 22 7,oA 23 21 22,oL 24 23,oF 25 3 0,oL 26 25,oM 27 8,oN (.iaddr 28 6 none 26 27),oF 29 28 1,oL 30 29,oY 31 65 [24,30],oN (.un 32 .not 31)] [2,3,14,15,16,32] 1 (.cond 32 (sR [oK 6 3] [6] 0 .ret) .skip)))) (pR [oP 33 16 1,oM 16 33] [2,3,14,15,16] 1)))) [2,3,14,15,16] 1)
def q2y:ICode:=(.post (.block 0 (.loop q6j)) [] 0)
def q2z:ICode:=(.seq (.region [oK 6 0] false) .ret)
def q6k:ICode:=(sR [oB 3 0,oK 6 0] [1,2,3] 1 (.seq (sR [oM 9 2,oD 10 9,oM 11 1,oD 12 11,oN (.bin 13 .neq 10 12)] [1,2,3,13] 1 (.cond 13 (sR [oK 6 2] [6] 0 .ret) .skip)) (.seq (sR [oM 14 1,oD 15 14,oK 16 0] [2,3,14,15,16] 1 (.cut q2y)) (.cut q2z))))
def qp:IFunc:={np:=3,res:=[.t 6],own:=false,trunc:=true,body:=q6k }
def q6l:ICode:=(.post (.seq (.region [oW 29 28 27] false) (.seq (.cond 29 .skip (.exit 0)) (.seq (.block 1 (sR [oN (.iaddr 30 2 none 26 28),oN (.load 31 true 2 30),oN (.alloc 9 false (.agg [I 0,I 0])),oN (.store false 2 9 31)] [1,5,6,7,9,26,27,28] 1 (pQ [oM 32 7,oF 33 9 0,oL 34 33,oM 35 6,oF 36 9 1,oL 37 36,oA 38 35 37,oL 39 38,oN (.mupd 0 32 34 39)] [1,5,6,7,26,27,28] 0))) (pR [oP 40 28 1,oM 28 40] [1,5,6,7,26,27,28] 0)))) [1,5,6,7,26,27,28] 0)
def q26:ICode:=(.post (.block 0 (.loop q6l)) [1,5,7] 0)
def q1a:ICode:=(pR [oT 60 10,oM 61 13,oN (.buildSl 62 1 [61]),oN (.append 63 1 8 60 62),oT 10 63] [1,7,10,41,42,43] 0)
def q1b:ICode:=(pR [oP 64 43 1,oM 43 64] [1,7,10,41,42,43] 0)
def q6m:ICode:=(.post (.seq (.region [oW 44 43 42] false) (.seq (.cond 44 .skip (.exit 2)) (.seq (.block 3 (sR [oM 45 43,oA 46 41 43,oL 47 46,oM 11 45,oM 12 47] [1,7,10,11,12,41,42,43] 0 (sR [oM 49 7,oM 50 12,oN (.lookup 51 0 49 50 true (I 0)),oM 48 51,oG 52 48 0,oG 53 48 1,oM 13 52,oM 14 53] [1,7,10,11,13,14,41,42,43] 0 (.seq (sR [oM 54 14,oN (.un 55 .not 54)] [1,7,10,11,13,41,42,43,55] 0 (.cond 55 (.post (pR [oM 56 1,oM 57 11,oA 58 56 57,oL 59 58,oM 13 59] [1,7,10,13,41,42,43] 0) [1,7,10,13,41,42,43] 0) (.post .skip [1,7,10,13,41,42,43] 0))) (.cut q1a))))) (.cut q1b)))) [1,7,10,41,42,43] 0)
def q27:ICode:=(.post (.block 2 (.loop q6m)) [10] 0)
def q28:ICode:=(sR [oM 65 10,oT 4 65] [4] 0 .ret)
def q29:ICode:=(.seq (.region [oN (.mv 10 (.c (.sl true 1 [])))] false) (.seq (sR [oM 41 5,oD 42 41,oK 43 0] [1,7,10,41,42,43] 0 (.cut q27)) (.cut q28)))
def q6n:ICode:=(sR [oB 2 0,oN (.mv 4 (.c (.sl true 1 [])))] [1,2] 1 (sR [oN (.load 15 true 5 2),oY 16 101 [15,(.c (I 3))],oT 5 16] [1,2,5] 1 (sQ [oN (.load 17 true 5 2),oM 18 5,oY 19 142 [18],oN (.load 20 true 5 2),oY 21 101 [20,(.c (I 2))],oY 22 142 [21],oY 23 139 [17,19,22],oT 6 23] [1,2,5,6] 1 (sR [oN (.mkmap 24),oM 7 24] [1,2,5,6,7] 1 (.seq (sR [oF 25 2 1,oL 26 25,oD 27 26,oK 28 0] [1,5,6,7,26,27,28] 0 (.cut q26)) (.cut q29))))))
def q30:IFunc:={np:=2,res:=[.t 4],own:=false,trunc:=true,body:=q6n }
def qq:ICode:=(pR [oP 79 19 1,oM 19 79] [1,2,3,7,8,17,18,19] 1)
def q6o:ICode:=(.post (.seq (.region [oW 20 19 18] false) (.seq (.cond 20 .skip (.exit 0)) (.seq (.block 1 (sR [oM 21 19,oN (.iaddr 22 6 none 17 19),oN (.load 23 true 6 22),oN (.alloc 10 false (.agg [I 0,I 0,I 0,I 0,I 0,I 0])),oM 9 21,oN (.store false 6 10 23)] [1,2,3,7,8,9,10,17,18,19] 2 (sR [oF 24 10 0,oL 25 24] [1,2,3,7,8,9,10,17,18,19,25] 2 (.block 2 (sR [oE 53 25 1,oM 52 53] [1,2,3,7,8,9,10,17,18,19,25,52] 2 (.cond 52 (.post (pR [oL 54 7,oM 55 9,oF 56 10 5,oL 57 56,oA 58 54 55,oN (.store false 1 58 57)] [1,2,3,7,8,17,18,19] 1) [1,2,3,7,8,17,18,19] 1) (.post (sR [oE 60 25 3,oM 59 60] [1,2,3,7,8,9,10,17,18,19,25,59] 2 (.cond 59 (.post (pQ [oL 61 7,oM 62 9,oM 63 1,oN (.iaddr 64 1 none 63 (.c (I 0))),oL 65 64,oM 66 1,oN (.slice 67 1 66 (some (.c (I 1))) none),oA 68 61 62,oN (.store false 1 68 65),oT 1 67] [1,2,3,7,8,17,18,19] 1) [1,2,3,7,8,17,18,19] 1)
 (.post (sR [oE 70 25 2,oM 69 70] [1,2,3,7,8,9,10,17,18,19,69] 2 (.cond 69 (.post (pQ [oL 71 7,oM 72 9,oM 73 2,oN (.iaddr 74 1 none 73 (.c (I 0))),oL 75 74,oM 76 2,oN (.slice 77 1 76 (some (.c (I 1))) none),oA 78 71 72,oN (.store false 1 78 75),oT 2 77] [1,2,3,7,8,17,18,19] 1) [1,2,3,7,8,17,18,19] 1) (.post (pQ [oL 26 7,oM 27 9,oF 28 10 0,oL 29 28,oF 30 10 1,oL 31 30,oM 32 8,oF 33 10 2,oL 34 33,oN (.callv (some 35) true 32 [34]),oM 36 8,oF 37 10 3,oL 38 37,oN (.callv (some 39) true 36 [38]),oM 40 8,oF 41 10 4,oL 42 41,oN (.callv (some 43) true 40 [42]),oF 44 10 5,oL 45 44,oF 46 3 0,oL 47 46,oN (.load 48 true 6 10),oY 49 104 [47,48],oY 50 66 [29,31,35,39,43,45,49],oA 51 26 27,oN (.store false 1 51 50)] [1,2,3,7,8,17,18,19] 1) [1,2,3,7,8,17,18,19] 1))) [1,2,3,7,8,17,18,19] 1))) [1,2,3,7,8,17,18,19] 1))))))) (.cut qq)))) [1,2,3,7,8,17,18,19] 1)
def q2a:ICode:=(.post (.block 0 (.loop q6o)) [7] 0)
def q2b:ICode:=(sR [oL 80 7,oT 6 80] [6] 0 .ret)
def q6p:ICode:=(sR [oB 3 0,oN (.mv 6 (.c (.sl true 1 [])))] [1,2,3] 1 (sR [oF 11 3 0,oL 12 11,oD 13 12,oN (.mksl 14 true 1 8 (I 0) 13),oN (.alloc 7 true (.sl true 1 [])),oN (.store true 1 7 14)] [1,2,3,7] 1 (sR [oN (.mkfn 15 143 [7]),oM 8 15] [1,2,3,7,8] 1 (.seq (sR [oF 16 3 0,oL 17 16,oD 18 17,oK 19 0] [1,2,3,7,8,17,18,19] 1 (.cut q2a)) (.cut q2b)))))
def q31:IFunc:={np:=3,res:=[.t 6],own:=false,trunc:=true,body:=q6p }
def q6q:ICode:=(.post (.seq (.region [oW 16 15 14] false) (.seq (.cond 16 .skip (.exit 0)) (.seq (.block 1 (sR [oN (.iaddr 17 2 none 13 15),oN (.load 18 true 2 17),oN (.alloc 7 false (.agg [I 0,I 0])),oN (.store false 2 7 18)] [1,2,5,7,13,14,15] 2 (pQ [oM 19 5,oF 20 7 0,oL 21 20,oM 22 1,oF 23 7 1,oL 24 23,oA 25 22 24,oL 26 25,oN (.mupd 0 19 21 26)] [1,2,5,13,14,15] 1))) (pR [oP 27 15 1,oM 15 27] [1,2,5,13,14,15] 1)))) [1,2,5,13,14,15] 1)
def q2c:ICode:=(.post (.block 0 (.loop q6q)) [2,5] 1)
def q6r:ICode:=(.post (.seq (.region [oW 32 31 30] false) (.seq (.cond 32 .skip (.exit 2)) (.seq (.block 3 (sR [oA 33 29 31,oL 34 33,oM 10 34] [5,8,10,29,30,31] 0 (pR [oT 35 8,oM 36 5,oM 37 10,oN (.lookup 38 0 36 37 false (I 0)),oN (.buildSl 39 1 [38]),oN (.append 40 1 8 35 39),oT 8 40] [5,8,29,30,31] 0))) (pR [oP 41 31 1,oM 31 41] [5,8,29,30,31] 0)))) [5,8,29,30,31] 0)
def q2d:ICode:=(.post (.block 2 (.loop q6r)) [8] 0)
def q2e:ICode:=(sR [oM 42 8,oT 4 42] [4] 0 .ret)
def q2f:ICode:=(.seq (.region [oN (.mv 8 (.c (.sl true 1 [])))] false) (.seq (sR [oN (.load 28 true 5 2),oY 29 101 [28,(.c (I 3))],oD 30 29,oK 31 0] [5,8,29,30,31] 0 (.cut q2d)) (.cut q2e)))
def q6s:ICode:=(sR [oB 2 0,oN (.mv 4 (.c (.sl true 1 [])))] [1,2] 1 (sR [oN (.mkmap 11),oM 5 11] [1,2,5] 1 (.seq (sR [oF 12 2 2,oL 13 12,oD 14 13,oK 15 0] [1,2,5,13,14,15] 1 (.cut q2c)) (.cut q2f))))
def q32:IFunc:={np:=2,res:=[.t 4],own:=false,trunc:=true,body:=q6s }
def q6t:ICode:=(.post (.seq (.region [oW 16 15 14] false) (.seq (.cond 16 .skip (.exit 0)) (.seq (.block 1 (sR [oA 17 13 15,oL 18 17,oM 9 18] [1,2,6,7,9,13,14,15] 1 (pR [oM 19 6,oM 20 19,gT (.mv 21 1) 20,gT (.mv 22 9) 20,gT (.iaddr 23 1 none 21 22) 20,gT (.load 24 false 1 23) 20,gT (.bin 25 .eql 24 (.c (I 1))) 20,oN (.pick 26 20 25 (.c (.bool false))),oM 6 26] [1,2,6,7,13,14,15] 1))) (pR [oP 27 15 1,oM 15 27] [1,2,6,7,13,14,15] 1)))) [1,2,6,7,13,14,15] 1)
def q2g:ICode:=(.post (.block 0 (.loop q6t)) [1,2,6,7] 1)
def q6u:ICode:=(.post (.seq (.region [oW 32 31 30] false) (.seq (.cond 32 .skip (.exit 2)) (.seq (.block 3 (sR [oA 33 29 31,oL 34 33,oM 11 34] [1,6,7,11,29,30,31] 0 (pR [oM 35 7,oM 36 35,gM 37 1 36,gM 38 11 36,gN (.iaddr 39 1 none 37 38) 36,gL 40 39 36,gN (.bin 41 .eql 40 (.c (I 1))) 36,oN (.pick 42 36 (.c (.bool true)) 41),oM 7 42] [1,6,7,29,30,31] 0))) (pR [oP 43 31 1,oM 31 43] [1,6,7,29,30,31] 0)))) [1,6,7,29,30,31] 0)
def q2h:ICode:=(.post (.block 2 (.loop q6u)) [6,7] 0)
def q33:ICode:=(sR [oM 44 6,oM 45 7,oM 4 44,oM 5 45] [4,5] 0 .ret)
def q2i:ICode:=(.seq (sR [oF 28 2 3,oL 29 28,oD 30 29,oK 31 0] [1,6,7,29,30,31] 0 (.cut q2h)) (.cut q33))
def q6v:ICode:=(sR [oB 2 0,oN (.mv 4 (.c (.bool false))),oN (.mv 5 (.c (.bool false)))] [1,2] 1 (.seq (.region [oN (.mv 6 (.c (.bool true))),oN (.mv 7 (.c (.bool false)))] false) (.seq (sR [oF 12 2 4,oL 13 12,oD 14 13,oK 15 0] [1,2,6,7,13,14,15] 1 (.cut q2g)) (.cut q2i))))
def q34:IFunc:={np:=2,res:=[.t 4,.t 5],own:=false,trunc:=true,body:=q6v }
def q6w:ICode:=(sR [oN (.mv 2 (.c (.sl true 1 [])))] [0] 0 (sR [oM 3 0,oD 4 3,oN (.mksl 5 false 1 8 (I 0) 4),oT 2 5] [2] 0 .ret))
def q35:IFunc:={np:=1,res:=[.t 2],own:=false,trunc:=true,body:=q6w }
def q6x:ICode:=(sR [oK 3 0] [0,1] 0 (sR [oL 4 1,oM 5 0,oA 6 4 5,oL 7 6,oM 3 7] [3] 0 .ret))
def q36:IFunc:={np:=2,res:=[.t 3],own:=false,trunc:=true,body:=q6x }
def q6y:ICode:=(sR [oB 1 0,oN (.alloc 2 false (.agg [I 0,I 0,.bool false,I 0])),oK 3 0] [1,2] 2 (.seq (sR [oN (.load 5 true 5 1),oY 6 38 [5],oM 4 6] [1,2,4] 2 (sR [oM 7 4,oN (.bin 8 .neq 7 (.c (I 0)))] [1,2,4,8] 2 (.cond 8 (sR [oN (.build 9 [I 0,I 0,.bool false,I 0] []),oM 10 4,oN (.store false 4 2 9),oM 3 10] [2,3] 2 .ret) .skip))) (sR [oN (.load 11 true 5 1),oX 12 251 [11],oC 13 12,oF 14 13 7,oN (.load 15 true 4 14),oN (.store false 4 2 15),oK 3 0] [2,3] 2 .ret)))
def q1c:IFunc:={np:=1,res:=[.cell 2 true 4,.t 3],own:=false,trunc:=true,body:=q6y }
def q6z:ICode:=(.post (pR [oT 4 12] [1,3,4] 0) [1,3,4] 0)
def q37:ICode:=(.block 1 (pQ [oL 13 3,oN (.load 14 true 5 1),oM 15 4,oY 16 136 [14,15],oX 17 394 [13,16,(.c (I 0))]] [] 0))
def qr:IYl:=⟨[1,3],12,q6z,q37⟩
def q38:ICode:=(.post (.rangeF 11 393 [1,3]) [3] 0)
def q70:ICode:=(.post (.seq (sR [oL 18 3,oC 19 18,oF 20 19 6,oL 21 20,oD 22 21,oN (.bin 23 .gtr 22 (.c (I 0)))] [3,23] 0 (.cond 23 .skip (.exit 2))) (.block 3 (sR [oL 24 3,oC 25 24,oF 26 25 6,oL 27 26,oN (.iaddr 28 1 none 27 (.c (I 0))),oL 29 28,oT 5 29] [3,5] 0 (sQ [oL 30 3,oL 31 3,oC 32 31,oF 33 32 6,oN (.loadT 34 33),oN (.tkS 35 34 1),oC 36 30,oF 37 36 6,oN (.store true 1 37 35)] [3,5] 0 (pR [oL 38 3,oM 39 5,oX 40 268 [38,39]] [3] 0))))) [3] 0)
def q39:ICode:=(.post (.block 2 (.loop q70)) [3] 0)
def q3a:ICode:=(sR [oL 41 3,oM 2 41] [2] 0 .ret)
def q3b:ICode:=(.seq (.cut q39) (.cut q3a))
def q71:ICode:=(sR [oN (.box 1 true false 0),oN (.mv 2 (.c (.nilp)))] [1] 0 (sR [oN (.load 6 true 5 1),oN (.mkmap 7),oN (.buildT 8 [.sl true 6 [],.sl true 2 [],.sl true 2 [],.sl true 1 [],.sl true 1 [],.nilm,.sl true 1 [],I 0,I 0,.bool false,I 0] [(0,5,6),(5,1,7)]),oN (.box 9 true true 8),oN (.alloc 3 true (.nilp)),oN (.store false 1 3 9)] [1,3] 0 (.seq (sR [oN (.load 10 true 5 1),oX 11 259 [10,(.c (I 3))]] [1,3,11] 0 (.block 0 (.cut q38))) (.cut q3b))))
def q3c:IFunc:={np:=1,res:=[.t 2],own:=false,trunc:=false,body:=q71 }
def q72:ICode:=(sR [oN (.box 2 true false 0),oN (.mv 4 (.c (.nilf)))] [1,2] 0 (sR [oN (.load 6 true 5 2),oM 7 1,oY 8 101 [6,7],oN (.alloc 5 true (.sl true 1 [])),oN (.store true 1 5 8)] [2,5] 0 (sR [oN (.mkfn 9 267 [5,2]),oM 4 9] [4] 0 .ret)))
def q3d:IFunc:={np:=2,res:=[.t 4],own:=false,trunc:=false,body:=q72 }
def q73:ICode:=(.post (.seq (.region [oW 15 14 13] false) (.seq (.cond 15 .skip (.exit 0)) (.seq (.block 1 (sR [oA 16 12 14,oL 17 16,oM 6 17] [0,1,2,4,6,12,13,14] 0 (pR [oM 18 4,oF 19 2 0,oL 20 19,oM 21 6,oN (.iaddr 22 6 none 20 21),oF 23 22 1,oL 24 23,oN (.bin 25 .add 18 24),oM 4 25] [0,1,2,4,12,13,14] 0))) (pR [oP 26 14 1,oM 14 26] [0,1,2,4,12,13,14] 0)))) [0,1,2,4,12,13,14] 0)
def q3e:ICode:=(.post (.block 0 (.loop q73)) [0,1,2,4] 0)
def q74:ICode:=(.post (.seq (.region [oW 36 35 34] false) (.seq (.cond 36 .skip (.exit 4)) (.seq (.block 5 (sR [oA 37 33 35,oL 38 37,oM 10 38] [0,1,2,7,8,10,28,29,33,34,35] 0 (sR [oF 39 2 0,oL 40 39,oM 41 10,oN (.iaddr 42 6 none 40 41),oF 43 42 1,oL 44 43,oM 11 44] [0,1,2,7,8,11,28,29,33,34,35] 0 (sR [oT 45 8,oM 46 7,oM 47 11,oN (.bin 48 .shl (.c (I 1)) 47),oS 49 48 1,oN (.bin 50 .and 46 49),oN (.buildSl 51 1 [50]),oN (.append 52 1 8 45 51),oT 8 52] [0,1,2,7,8,11,28,29,33,34,35] 0 (pR [oM 53 7,oM 54 11,oN (.bin 55 .shr 53 54),oM 7 55] [0,1,2,7,8,28,29,33,34,35] 0))))) (pR [oP 56 35 1,oM 35 56] [0,1,2,7,8,28,29,33,34,35] 0)))) [0,1,2,7,8,28,29,33,34,35] 0)
def q3f:ICode:=(.post (.block 4 (.loop q74)) [0,1,2,8,28,29] 0)
def q3g:ICode:=(sR [oM 57 0,oM 58 8,oN (.cally (some 59) 57 [58]),oN (.un 60 .not 59)] [0,1,2,28,29,60] 0 (.cond 60 .ret .skip))
def q2j:ICode:=(pR [oP 61 29 1,oM 29 61] [0,1,2,28,29] 0)
def q75:ICode:=(.post (.seq (.region [oW 30 29 28] false) (.seq (.cond 30 .skip (.exit 2)) (.seq (.block 3 (sR [oM 31 29,oM 7 31] [0,1,2,7,28,29] 0 (sR [oN (.buildSl 32 1 []),oT 8 32] [0,1,2,7,8,28,29] 0 (.seq (sR [oL 33 1,oD 34 33,oK 35 0] [0,1,2,7,8,28,29,33,34,35] 0 (.cut q3f)) (.cut q3g))))) (.cut q2j)))) [0,1,2,28,29] 0)
def q3h:ICode:=(.post (.block 2 (.loop q75)) [] 0)
def q3i:ICode:=(sR [oM 27 4,oN (.bin 28 .shl (.c (I 1)) 27),oK 29 0] [0,1,2,28,29] 0 (.cut q3h))
def q76:ICode:=(.seq (.region [oK 4 0] false) (.seq (sR [oL 12 1,oD 13 12,oK 14 0] [0,1,2,4,12,13,14] 0 (.cut q3e)) (.cut q3i)))
def q3j:IFunc:={np:=3,res:=[],own:=false,trunc:=false,body:=q76 }
def q14:ICode:=(pQ [oL 59 2,oL 60 2,oC 61 60,oF 62 61 0,oN (.load 63 true 5 62),oM 64 6,oY 65 140 [63,64],oL 66 4,oP 67 66 1,oX 68 394 [59,65,67]] [] 0)
def q77:ICode:=(.post (pR [oT 5 22] [2,3,4,5] 0) [2,3,4,5] 0)
def q3k:ICode:=(.block 1 (sQ [oL 23 2,oC 24 23,oF 25 24 0,oN (.load 26 true 5 25),oL 27 3,oM 28 5,oY 29 139 [26,27,28],oT 6 29] [2,4,6] 0 (sR [oL 31 2,oC 32 31,oF 33 32 0,oN (.load 34 true 5 33),oM 35 6,oY 36 141 [34,35],oM 30 36,oG 37 30 0,oG 38 30 1,oM 7 37,oM 8 38] [2,4,6,7,8] 0 (.seq (sR [oM 39 7,oN (.un 40 .not 39)] [2,4,6,8,40] 0 (.cond 40 (.exit 1) .skip)) (.seq (sR [oM 41 8,oM 42 41,gT (.load 43 false 1 2) 42,gT (.nilc 44 43) 42,gT (.faddr 45 44 7) 42,gT (.faddr 46 45 2) 42,gT (.load 47 false 1 46) 42,gT (.un 48 .not 47) 42,oN (.pick 49 42 48 (.c (.bool false)))] [2,4,6,49] 0 (.cond 49 (.post (pQ [oL 50 2,oL 51 2,oL 52 4,oC 53 50,oF 54 53 7,oF 55 54 2,oN (.storeP false 1 55 (.c (.bool true)) [2,4]),oC 56 51,oF 57 56 7,oF 58 57 3,oN (.store false 1 58 52)] [2,4,6] 0) [2,4,6] 0) (.post .skip [2,4,6] 0))) (.cut q14))))))
def qt:IYl:=⟨[2,3,4],22,q77,q3k⟩
def q3l:ICode:=(.post (.rangeF 21 395 [2,3,4]) [] 0)
def q78:ICode:=(sR [oN (.box 2 true false 0),oN (.box 3 true false 1)] [2,3] 0 (.seq (.lift (.region [oL 9 2,oC 10 9,oF 11 10 5,oL 12 11,oL 13 2,oL 14 3,oY 15 269 [13,14],oN (.lookup 16 0 12 15 false (I 0)),oN (.alloc 4 false (I 0)),oN (.store false 1 4 16)] true) [2,3] 4) (sR [oL 17 2,oC 18 17,oF 19 18 0,oN (.load 20 true 5 19),oX 21 259 [20,(.c (I 2))]] [2,3,4,21] 0 (.block 0 (.cut q3l)))))
def q3m:IFunc:={np:=2,res:=[],own:=false,trunc:=false,body:=q78 }
def q79:ICode:=(.post (.seq (.region [oW 16 15 14] false) (.seq (.cond 16 .skip (.exit 0)) (.seq (.block 1 (sR [oM 17 15,oA 18 13 15,oL 19 18,oM 7 17,oM 8 19] [0,1,5,6,7,8,13,14,15] 0 (sR [oM 20 5,oM 21 1,oM 22 7,oA 23 21 22,oL 24 23,oM 25 6,oN (.bin 26 .shl 24 25),oN (.bin 27 .or 20 26),oM 5 27] [0,1,5,6,8,13,14,15] 0 (pR [oM 28 6,oM 29 0,oC 30 29,oF 31 30 0,oF 32 31 0,oL 33 32,oM 34 8,oN (.iaddr 35 6 none 33 34),oF 36 35 1,oL 37 36,oN (.bin 38 .add 28 37),oM 6 38] [0,1,5,6,13,14,15] 0)))) (pR [oP 39 15 1,oM 15 39] [0,1,5,6,13,14,15] 0)))) [0,1,5,6,13,14,15] 0)
def q3n:ICode:=(.post (.block 0 (.loop q79)) [5] 0)
def q3o:ICode:=(sR [oM 40 5,oM 4 40] [4] 0 .ret)
def q7a:ICode:=(sR [oK 4 0] [0,1] 0 (.seq (.region [oK 5 0,oK 6 0] false) (.seq (sR [oM 9 0,oC 10 9,oF 11 10 0,oN (.load 12 true 5 11),oY 13 101 [12,(.c (I 3))],oD 14 13,oK 15 0] [0,1,5,6,13,14,15] 0 (.cut q3n)) (.cut q3o))))
def q3p:IFunc:={np:=2,res:=[.t 4],own:=false,trunc:=true,body:=q7a }
def qu:ICode:=(.seq (sR [oM 19 6,oN (.bin 20 .neq 19 (.c (I 0)))] [1,2,6,20] 1 (.cond 20 (sR [oM 21 6,oN (.mv 4 (.c (.bool false))),oM 5 21] [4,5] 0 .ret) .skip)) (sR [oN (.load 22 true 5 2),oX 23 251 [22],oM 7 23] [1,7] 0 (sQ [oM 25 7,oC 26 25,oF 27 26 5,oL 28 27,oM 29 7,oM 30 1,oY 31 269 [29,30],oN (.lookup 32 0 28 31 true (I 0)),oM 24 32,oG 33 24 0,oG 34 24 1,oM 8 33,oM 9 34] [9] 0 (sR [oM 35 9,oM 4 35,oK 5 0] [4,5] 0 .ret))))
def q7b:ICode:=(sR [oB 2 0,oN (.mv 4 (.c (.bool false))),oK 5 0] [1,2] 1 (sR [oN (.load 10 true 5 2),oY 11 38 [10],oM 6 11] [1,2,6] 1 (.seq (sR [oM 12 6,oE 13 12 0] [1,2,6,13] 1 (.cond 13 (.post (pQ [oN (.load 14 true 5 2),oN (.load 15 true 5 2),oY 16 101 [15,(.c (I 3))],oM 17 1,oY 18 135 [14,16,17],oM 6 18] [1,2,6] 1) [1,2,6] 1) (.post .skip [1,2,6] 1))) (.cut qu))))
def qv:IFunc:={np:=2,res:=[.t 4,.t 5],own:=false,trunc:=true,body:=q7b }
def q7c:ICode:=(sR [oM 9 0,oM 10 1,oY 11 269 [9,10],oM 6 11] [0,1,2,6] 0 (.seq (sR [oM 13 0,oC 14 13,oF 15 14 5,oL 16 15,oM 17 6,oN (.lookup 18 0 16 17 true (I 0)),oM 12 18,oG 19 12 0,oG 20 12 1,oM 7 19,oM 8 20] [0,1,2,6,8] 0 (sR [oM 21 8] [0,1,2,6,21] 0 (.cond 21 .ret .skip))) (sR [oM 22 0,oC 23 22,oF 24 23 5,oL 25 24,oM 26 6,oM 27 2,oN (.mupd 0 25 26 27)] [0,1,2] 0 (sR [oM 28 0,oM 29 0,oC 30 29,oF 31 30 6,oN (.loadT 32 31),oM 33 1,oN (.buildSl 34 1 [33]),oN (.append 35 1 24 32 34),oC 36 28,oF 37 36 6,oN (.store true 1 37 35)] [0,2] 0 (sR [oM 38 0,oC 39 38,oF 40 39 7,oF 41 40 0,oL 42 41,oP 43 42 1,oC 44 38,oF 45 44 7,oF 46 45 0,oN (.store false 1 46 43)] [0,2] 0 (pR [oM 47 0,oM 48 2,oC 49 47,oF 50 49 7,oF 51 50 1,oN (.store false 1 51 48)] [] 0))))))
def q1d:IFunc:={np:=3,res:=[],own:=false,trunc:=false,body:=q7c }
def q7d:ICode:=(.seq (.region [oN (.alloc 0 false (.agg [.sl true 6 [],.sl true 2 [],.sl true 2 [],.sl true 1 [],.sl true 1 []]))] false) (sR [oN (.build 1 [I 0,I 0,I 0,I 0,I 0,I 0] [(0,1,(.c (I 1))),(1,1,(.c (I 1)))]),oN (.build 2 [I 0,I 0,I 0,I 0,I 0,I 0] [(0,1,(.c (I 3))),(1,1,(.c (I 1)))]),oN (.build 3 [I 0,I 0,I 0,I 0,I 0,I 0] [(0,1,(.c (I 4))),(1,1,(.c (I 1))),(2,1,(.c (I 1)))]),oN (.buildSl 4 6 [1,2,3]),oN (.build 5 [I 0,I 0] [(0,1,(.c (I 1))),(1,1,(.c (I 0)))]),oN (.buildSl 6 2 [5]),oN (.build 7 [I 0,I 0] [(0,1,(.c (I 1))),(1,1,(.c (I 2)))]),oN (.buildSl 8 2 [7]),oN (.buildSl 9 1 [(.c (I 1))]),oN (.buildT 10 [.sl true 6 [],.sl true 2 [],.sl true 2 [],.sl true 1 [],.sl true 1 []] [(0,1,4),(1,1,6),(2,1,8),(3,1,9)]),oN (.store true 5 0 10)] [0] 1 .ret))
def q3q:IFunc:={np:=0,res:=[.cell 0 true 5],own:=false,trunc:=true,body:=q7d }
def q7e:ICode:=(sR [oN (.mv 0 (.c (.bool false)))] [] 0 (sR [oY 4 75 [],oY 5 244 [4],oM 3 5,oG 6 3 0,oG 7 3 1,oN (.alloc 1 false (.agg [I 0,I 0,.bool false,I 0])),oN (.store false 4 1 6),oM 2 7] [1,2] 1 (sR [oM 8 2,oE 9 8 0,oM 10 9,gT (.faddr 11 1 0) 10,gT (.load 12 false 1 11) 10,gT (.bin 13 .eql 12 (.c (I 2))) 10,oN (.pick 14 10 13 (.c (.bool false))),oM 15 14,gT (.faddr 16 1 1) 15,gT (.load 17 false 1 16) 15,gT (.bin 18 .eql 17 (.c (I 1))) 15,oN (.pick 19 15 18 (.c (.bool false))),oM 20 19,gT (.faddr 21 1 2) 20,gT (.load 22 false 1 21) 20,oN (.pick 23 20 22 (.c (.bool false))),oM 24 23,gT (.faddr 25 1 3) 24,gT (.load 26 false 1 25) 24,gT (.bin 27 .eql 26 (.c (I 1))) 24,oN (.pick 28 24 27 (.c (.bool false))),oM 0 28] [0] 0 .ret)))
def q3r:IFunc:={np:=0,res:=[.t 0],own:=false,trunc:=true,body:=q7e }
def q9n:ICode:=(sR [oN (.mv 0 (.c (.bool false)))] [] 0 (sR [oN (.buildSl 8 1 [(.c (I 0))]),oN (.buildSl 9 1 [(.c (.sl true 1 [])),(.c (.sl true 1 []))]),oN (.buildT 10 [.sl true 1 [],.sl true 1 []] [(0,1,8),(1,1,9)]),oN (.alloc 1 false (.agg [.sl true 1 [],.sl true 1 []])),oN (.store true 2 1 10)] [1] 1 (sQ [oY 12 75 [],oN (.load 13 true 2 1),oY 14 245 [12,13],oM 11 14,oG 15 11 0,oG 16 11 1,oM 2 15,oM 3 16] [1,2,3] 1 (sR [oN (.load 18 true 2 1),oY 19 246 [18],oM 17 19,oG 20 17 0,oG 21 17 1,oM 4 20,oM 5 21] [1,2,3,4,5] 1 (sR [oM 23 4,oY 24 247 [23],oM 22 24,oG 25 22 0,oG 26 22 1,oN (.alloc 6 false (.agg [.sl true 1 [],.sl true 1 []])),oN (.store true 2 6 25),oM 7 26] [1,2,3,4,5,6,7] 2 (sQ [oM 27 3,oE 28 27 0,oM 29 28,gT (.mv 30 5) 29,gT (.bin 31 .eql 30 (.c (I 0))) 29,oN (.pick 32 29 31 (.c (.bool false))),oM 33 32,gT (.mv 34 7) 33,gT (.bin 35 .eql 34 (.c (I 0))) 33,
 oN (.pick 36 33 35 (.c (.bool false))),oM 37 36,gT (.mv 38 2) 37,oN (.pick 39 37 38 (.c (.bool false))),oM 40 39,gT (.mv 41 4) 40,⟨.bin 42 .eql 41 (.c (.str ⟨#[115,116,97,114,116,32,48,10,105,110,10,105,110,10]⟩)),some (40,true)⟩,oN (.pick 43 40 42 (.c (.bool false))),oM 44 43,gT (.faddr 45 6 1) 44,gT (.load 46 false 1 45) 44,gT (.len 47 0 46) 44,gT (.bin 48 .eql 47 (.c (I 2))) 44,oN (.pick 49 44 48 (.c (.bool false))),oM 50 49,gT (.call (some 51) true 75 []) 50,gT (.load 52 true 2 1) 50,gT (.call (some 53) true 248 [51,52]) 50,gT (.bin 54 .eql 53 (.c (I 0))) 50,oN (.pick 55 50 54 (.c (.bool false))),oM 0 55] [0] 0 .ret))))))
def q9o:IFunc:={np:=0,res:=[.t 0],own:=false,trunc:=true,body:=q9n }
def q7f:ICode:=(sR [oB 2 0,oB 3 1,oN (.mv 4 (.c (.bool false)))] [2,3] 2 (.seq (sR [oY 12 241 [],oN (.un 13 .not 12),oM 14 13,gN (.call (some 15) true 242 []) 14,gN (.un 16 .not 15) 14,oN (.pick 17 14 (.c (.bool true)) 16)] [2,3,17] 2 (.cond 17 (sR [oN (.mv 4 (.c (.bool false)))] [4] 0 .ret) .skip)) (sR [oN (.load 19 true 5 2),oY 20 244 [19],oM 18 20,oG 21 18 0,oG 22 18 1,oN (.alloc 5 false (.agg [I 0,I 0,.bool false,I 0])),oN (.store false 4 5 21),oM 6 22] [2,3,5,6] 3 (sR [oN (.load 24 true 5 2),oN (.load 25 true 2 3),oY 26 245 [24,25],oM 23 26,oG 27 23 0,oG 28 23 1,oM 7 27,oM 8 28] [2,3,5,6,7,8] 3 (.seq (sR [oM 29 6,oN (.bin 30 .neq 29 (.c (I 0))),oM 31 30,gM 32 8 31,gN (.bin 33 .neq 32 (.c (I 0))) 31,oN (.pick 34 31 (.c (.bool true)) 33)] [2,3,5,7,8,34] 3 (.cond 34 (sR [oM 35 8,oN (.bin 36 .neq 35 (.c (I 0))),oM 4 36] [4] 0 .ret) .skip))
 (sR [oF 37 3 1,oL 38 37,oD 39 38,oS 40 39 1,oM 9 40] [2,3,5,7,9] 3 (.seq (sR [oF 41 5 2,oL 42 41,oM 43 42,gT (.faddr 44 5 3) 43,gT (.load 45 false 1 44) 43,gT (.faddr 46 5 1) 43,gT (.load 47 false 1 46) 43,gT (.bin 48 .gtr 45 47) 43,oN (.pick 49 43 48 (.c (.bool false))),oM 50 49,gM 51 7 50,gM 52 51 50,gT (.faddr 53 5 2) 52,gT (.load 54 false 1 53) 52,gT (.un 55 .not 54) 52,gT (.mv 56 55) 52,gF 57 5 3 56,gL 58 57 56,gM 59 9 56,gN (.bin 60 .gtr 58 59) 56,gT (.pick 61 56 (.c (.bool true)) 60) 52,gN (.pick 62 52 61 (.c (.bool false))) 50,oN (.pick 63 50 (.c (.bool true)) 62)] [2,3,7,63] 2 (.cond 63 (sR [oN (.mv 4 (.c (.bool false)))] [4] 0 .ret) .skip)) (.seq (sR [oM 64 7,oN (.un 65 .not 64)] [2,3,65] 2 (.cond 65 (sR [oN (.mv 4 (.c (.bool true)))] [4] 0 .ret) .skip))
 (sR [oN (.load 67 true 5 2),oN (.load 68 true 2 3),oY 69 375 [67,68],oM 66 69,oG 70 66 0,oG 71 66 1,oT 10 70,oM 6 71] [2,6,10] 1 (.seq (sR [oM 72 6,oN (.bin 73 .neq 72 (.c (I 0))),oM 74 73,gM 75 10 74,gN (.len 76 0 75) 74,gN (.bin 77 .eql 76 (.c (I 0))) 74,oN (.pick 78 74 (.c (.bool true)) 77)] [2,10,78] 1 (.cond 78 (sR [oN (.mv 4 (.c (.bool false)))] [4] 0 .ret) .skip)) (sQ [oN (.load 80 true 5 2),oM 81 10,oM 82 10,oD 83 82,oS 84 83 1,oA 85 81 84,oL 86 85,oY 87 319 [80,86],oM 79 87,oG 88 79 0,oG 89 79 1,oM 11 88,oM 6 89] [6,11] 0 (sR [oM 90 6,oE 91 90 0,oM 92 91,gT (.mv 93 11) 92,oN (.pick 94 92 93 (.c (.bool false))),oM 4 94] [4] 0 .ret))))))))))))
def qw:IFunc:={np:=2,res:=[.t 4],own:=false,trunc:=true,body:=q7f }
def q7g:ICode:=(sR [oN (.mv 4 (.c (.bool false)))] [0,1] 0 (sR [oM 5 0,oM 6 1,oY 7 111 [5,6],oN (.bin 8 .geq 7 (.c (I 0))),oM 4 8] [4] 0 .ret))
def q3s:IFunc:={np:=2,res:=[.t 4],own:=false,trunc:=true,body:=q7g }
def q7h:ICode:=(.post (.seq (.region [oW 12 11 10] false) (.seq (.cond 12 .skip (.exit 0)) (.seq (.block 1 (sR [oA 13 9 11,oL 14 13,oT 5 14] [0,3,5,9,10,11] 0 (sR [oM 15 3,oM 16 5,oD 17 16,oN (.bin 18 .add 15 17),oM 3 18] [0,3,9,10,11] 0 (sR [oM 19 3,oN (.bin 20 .lss 19 (.c (I 0)))] [0,3,9,10,11,20] 0 (.cond 20 .bad .skip))))) (pR [oP 22 11 1,oM 11 22] [0,3,9,10,11] 0)))) [0,3,9,10,11] 0)
def q3t:ICode:=(.post (.block 0 (.loop q7h)) [0,3] 0)
def q7i:ICode:=(.post (.seq (.region [oW 28 27 26] false) (.seq (.cond 28 .skip (.exit 2)) (.seq (.block 3 (sR [oA 29 25 27,oL 30 29,oT 8 30] [6,8,25,26,27] 0 (pR [oT 31 6,oM 32 8,oN (.append 33 1 8 31 32),oT 6 33] [6,25,26,27] 0))) (pR [oP 34 27 1,oM 27 34] [6,25,26,27] 0)))) [6,25,26,27] 0)
def q3u:ICode:=(.post (.block 2 (.loop q7i)) [6] 0)
def q3v:ICode:=(sR [oM 35 6,oT 2 35] [2] 0 .ret)
def q3w:ICode:=(sR [oM 23 3,oY 24 119 [(.c .nils),23],oT 6 24] [0,6] 0 (.seq (sR [oM 25 0,oD 26 25,oK 27 0] [6,25,26,27] 0 (.cut q3u)) (.cut q3v)))
def q7j:ICode:=(sR [oN (.mv 2 (.c (.sl true 1 [])))] [0] 0 (.seq (.region [oK 3 0] false) (.seq (sR [oM 9 0,oD 10 9,oK 11 0] [0,3,9,10,11] 0 (.cut q3t)) (.cut q3w))))
def q3x:IFunc:={np:=1,res:=[.t 2],own:=true,trunc:=true,body:=q7j }
def q7k:ICode:=(.post (.seq (.region [oW 9 8 7] false) (.seq (.cond 9 .skip (.exit 0)) (.seq (.block 1 (sR [oM 10 8,oM 5 10] [0,1,5,7,8] 0 (sR [oM 11 1,oM 12 0,oM 13 5,oA 14 12 13,oL 15 14,oN (.callv (some 16) true 11 [15])] [0,1,5,7,8,16] 0 (.cond 16 (sR [oM 17 5,oM 4 17] [4] 0 .ret) .skip)))) (pR [oP 18 8 1,oM 8 18] [0,1,7,8] 0)))) [0,1,7,8] 0)
def q3y:ICode:=(.post (.block 0 (.loop q7k)) [] 0)
def q3z:ICode:=(.seq (.region [oN (.mv 4 (.c (I (-1))))] false) .ret)
def q7l:ICode:=(sR [oK 4 0] [0,1] 0 (.seq (sR [oM 6 0,oD 7 6,oK 8 0] [0,1,7,8] 0 (.cut q3y)) (.cut q3z)))
def q1e:IFunc:={np:=2,res:=[.t 4],own:=false,trunc:=true,body:=q7l }
def q7m:ICode:=(.post (.seq (.region [oW 29 28 27] false) (.seq (.cond 29 .skip (.exit 0)) (.seq (.block 1 (sR [oM 30 28,oM 3 30] [1,3,27,28] 1 (sR [oF 31 1 0,oL 32 31,oM 33 3,oY 34 76 [32,33],oM 4 34] [1,4,27,28] 1 (sR [oM 35 4,oN (.bin 36 .neq 35 (.c (I 0)))] [1,4,27,28,36] 1 (.cond 36 (sR [oM 37 4,oM 2 37] [2] 0 .ret) .skip))))) (pR [oP 38 28 1,oM 28 38] [1,27,28] 1)))) [1,27,28] 1)
def q40:ICode:=(.post (.block 0 (.loop q7m)) [1] 1)
def q15:ICode:=(.seq (sR [oN (.load 40 true 5 1),oY 41 77 [40],oM 39 41,oG 42 39 0,oG 43 39 1,oM 5 42,oM 6 43] [1,5,6] 1 (sR [oM 44 5,oN (.bin 45 .gtr 44 (.c (I 6))),oM 46 45,gM 47 6 46,gN (.bin 48 .gtr 47 (.c (I 10))) 46,oN (.pick 49 46 (.c (.bool true)) 48)] [1,49] 1 (.cond 49 (sR [oK 2 2] [2] 0 .ret) .skip))) (sR [oN (.load 50 true 5 1),oN (.buildT 51 [.sl true 6 [],.sl true 2 [],.sl true 2 [],.sl true 1 [],.sl true 1 [],.sl true 1 []] [(0,5,50)]),oN (.box 52 true true 51),oM 7 52] [7] 0 (sR [oM 53 7,oX 54 78 [53]] [7] 0 (.seq (sR [oM 55 7,oY 56 79 [55],oM 8 56] [7,8] 0 (sR [oM 57 8,oN (.bin 58 .neq 57 (.c (I 0)))] [7,8,58] 0 (.cond 58 (sR [oM 59 8,oM 2 59] [2] 0 .ret) .skip))) (sR [oM 60 7,oY 61 80 [60],oM 2 61] [2] 0 .ret)))))
def q7n:ICode:=(sR [oB 1 0,oK 2 0] [1] 1 (.seq (sR [oF 9 1 0,oL 10 9,oD 11 10,oN (.bin 12 .gtr 11 (.c (I 80))),oM 13 12,gF 14 1 3 13,gL 15 14 13,gN (.len 16 0 15) 13,gN (.bin 17 .gtr 16 (.c (I 8))) 13,oN (.pick 18 13 (.c (.bool true)) 17),oM 19 18,gF 20 1 4 19,gL 21 20 19,gN (.len 22 0 21) 19,gN (.bin 23 .gtr 22 (.c (I 8))) 19,oN (.pick 24 19 (.c (.bool true)) 23)] [1,24] 1 (.cond 24 (sR [oK 2 2] [2] 0 .ret) .skip)) (.seq (sR [oF 25 1 0,oL 26 25,oD 27 26,oK 28 0] [1,27,28] 1 (.cut q40)) (.cut q15))))
def qf:IFunc:={np:=1,res:=[.t 2],own:=false,trunc:=true,body:=q7n }
def qc:ICode:=(.cond 39 (sR [oK 4 1] [4] 0 .ret) .skip)
def qd:ICode:=(sR [oK 4 0] [4] 0 .ret)
def q7o:ICode:=(.post (.seq (.region [oW 70 69 68] false) (.seq (.cond 70 .skip (.exit 1)) (.seq (.block 2 (sR [oM 71 69,oA 72 67 69,oL 73 72,oM 6 71,oM 7 73] [0,1,5,6,7,67,68,69] 1 (sR [oM 74 6,oF 75 5 0,oL 76 75,oY 77 63 [76],oW 78 74 77,oM 79 78,gT (.mv 80 7) 79,gT (.bin 81 .lss 80 (.c (I 0))) 79,gT (.mv 82 81) 79,gM 83 7 82,gM 84 1 82,gN (.bin 85 .geq 83 84) 82,gT (.pick 86 82 (.c (.bool true)) 85) 79,oN (.pick 87 79 86 (.c (.bool false))),oM 88 87,gM 89 6 88,gF 90 5 0 88,gL 91 90 88,gN (.call (some 92) true 63 [91]) 88,gN (.bin 93 .geq 89 92) 88,gM 94 93 88,gT (.mv 95 7) 94,gT (.bin 96 .neq 95 (.c (I 0))) 94,gN (.pick 97 94 96 (.c (.bool false))) 88,oN (.pick 98 88 (.c (.bool true)) 97)] [0,1,5,67,68,69,98] 1 (.cond 98 (sR [oK 4 4] [4] 0 .ret) .skip)))) (pR [oP 99 69 1,oM 69 99] [0,1,5,67,68,69] 1)))) [0,1,5,67,68,69] 1)
def q41:ICode:=(.post (.block 1 (.loop q7o)) [0,5] 1)
def q42:ICode:=(sQ [oF 100 5 0,oL 101 100,oF 102 5 1,oL 103 102,oF 104 5 5,oL 105 104,oM 106 0,oN (.load 107 true 6 5),oY 108 104 [106,107],oY 109 22 [101,103,105,108],oM 4 109] [4] 0 .ret)
def qb:ICode:=(.seq (sR [oF 61 5 2,oL 62 61,oF 63 5 3,oL 64 63,oF 65 5 4,oL 66 65,oN (.buildSl 67 1 [62,64,66]),oD 68 67,oK 69 0] [0,1,5,67,68,69] 1 (.cut q41)) (.cut q42))
def q7p:ICode:=(sR [oK 4 0] [0,1] 0 (sR [oM 8 0,oM 9 1,oN (.iaddr 10 6 none 8 9),oN (.load 11 true 6 10),oN (.alloc 5 false (.agg [I 0,I 0,I 0,I 0,I 0,I 0])),oN (.store false 6 5 11)] [0,1,5] 1 (.seq (sR [oF 12 5 0,oL 13 12,oN (.bin 14 .lss 13 (.c (I 1))),oM 15 14,gF 16 5 0 15,gL 17 16 15,gN (.bin 18 .geq 17 (.c (I 24))) 15,oN (.pick 19 15 (.c (.bool true)) 18)] [0,1,5,19] 1 (.cond 19 (sR [oK 4 7] [4] 0 .ret) .skip)) (.seq (sR [oF 20 5 1,oL 21 20,oY 22 62 [21],oN (.un 23 .not 22)] [0,1,5,23] 1 (.cond 23 (sR [oK 4 3] [4] 0 .ret) .skip)) (.seq (sR [oF 24 5 0,oL 25 24,oY 26 103 [25]] [0,1,5,26] 1 (.cond 26 (.seq (.block 0 (sR [oF 28 5 0,oL 29 28,oE 30 29 1,oM 31 30,gT (.faddr 32 5 5) 31,gT (.load 33 false 1 32) 31,gT (.faddr 34 5 1) 31,gT (.load 35 false 1 34) 31,gT (.call (some 36) true 65 [33,35]) 31,gT (.un 37 .not 36) 31,oN (.pick 38 31 37 (.c (.bool false))),oM 27 38] [5,27] 1
 (.cond 27 (sR [oK 4 3] [4] 0 .ret) (.seq (sR [oF 40 5 0,oL 41 40,oN (.bin 42 .neq 41 (.c (I 1))),oM 43 42,gT (.faddr 44 5 5) 43,gT (.load 45 false 1 44) 43,gT (.bin 46 .neq 45 (.c (I 0))) 43,oN (.pick 47 43 46 (.c (.bool false))),oM 39 47] [5,39] 1 (.cond 39 (.post .skip [39] 0) (.post (pR [oF 48 5 2,oL 49 48,oN (.bin 50 .neq 49 (.c (I 0))),oM 51 50,gF 52 5 3 51,gL 53 52 51,gN (.bin 54 .neq 53 (.c (I 0))) 51,oN (.pick 55 51 (.c (.bool true)) 54),oM 56 55,gF 57 5 4 56,gL 58 57 56,gN (.bin 59 .neq 58 (.c (I 0))) 56,oN (.pick 60 56 (.c (.bool true)) 59),oM 39 60] [39] 0) [39] 0))) (.cut qc))))) (.cut qd)) .skip)) (.cut qb))))))
def q43:IFunc:={np:=2,res:=[.t 4],own:=false,trunc:=true,body:=q7p }
def q7q:ICode:=(sR [oB 1 0,oK 2 0,oK 3 0] [1] 1 (sQ [oN (.load 4 true 5 1),oN (.load 5 true 5 1),oY 6 101 [5,(.c (I 2))],oY 7 105 [4,6],oN (.load 8 true 5 1),oN (.load 9 true 5 1),oY 10 101 [9,(.c (I 3))],oY 11 105 [8,10],oM 2 7,oM 3 11] [2,3] 0 .ret))
def q44:IFunc:={np:=1,res:=[.t 2,.t 3],own:=false,trunc:=true,body:=q7q }
def q7r:ICode:=(.post (.seq (.region [oW 29 28 27] false) (.seq (.cond 29 .skip (.exit 2)) (.seq (.block 3 (sR [oA 30 26 28,oL 31 30,oM 6 31] [0,4,6,11,12,13,26,27,28] 0 (pR [oM 32 4,oM 33 32,gM 34 0 33,gN (.nilc 35 34) 33,gF 36 35 5 33,gL 37 36 33,gM 38 6 33,gN (.iaddr 39 1 none 37 38) 33,gL 40 39 33,oN (.pick 41 33 (.c (.bool true)) 40),oM 4 41] [0,4,11,12,13,26,27,28] 0))) (pR [oP 42 28 1,oM 28 42] [0,4,11,12,13,26,27,28] 0)))) [0,4,11,12,13,26,27,28] 0)
def q1f:ICode:=(.post (.block 2 (.loop q7r)) [0,4,11,12,13] 0)
def q1g:ICode:=(pR [oM 43 0,oM 44 0,oC 45 44,oF 46 45 5,oN (.loadT 47 46),oM 48 4,oN (.buildSl 49 1 [48]),oN (.append 50 1 1 47 49),oC 51 43,oF 52 51 5,oN (.store true 1 52 50)] [0,11,12,13] 0)
def qx:ICode:=(pR [oP 53 13 1,oM 13 53] [0,11,12,13] 0)
def q7s:ICode:=(.post (.seq (.region [oW 14 13 12] false) (.seq (.cond 14 .skip (.exit 0)) (.seq (.block 1 (sR [oN (.iaddr 15 6 none 11 13),oN (.load 16 true 6 15),oN (.alloc 3 false (.agg [I 0,I 0,I 0,I 0,I 0,I 0])),oN (.store false 6 3 16)] [0,3,11,12,13] 1 (sR [oF 17 3 0,oL 18 17,oE 19 18 2,oM 20 19,gF 21 3 0 20,gL 22 21 20,gN (.bin 23 .eql 22 (.c (I 3))) 20,oN (.pick 24 20 (.c (.bool true)) 23),oM 4 24] [0,3,4,11,12,13] 1 (.seq (sR [oN (.load 25 true 6 3),oY 26 81 [25],oD 27 26,oK 28 0] [0,4,11,12,13,26,27,28] 0 (.cut q1f)) (.cut q1g))))) (.cut qx)))) [0,11,12,13] 0)
def q45:ICode:=(.post (.block 0 (.loop q7s)) [] 0)
def q7t:ICode:=(sR [oM 7 0,oC 8 7,oF 9 8 0,oF 10 9 0,oL 11 10,oD 12 11,oK 13 0] [0,11,12,13] 0 (.cut q45))
def q46:IFunc:={np:=1,res:=[],own:=false,trunc:=false,body:=q7t }
def q7u:ICode:=(.post (.seq (.region [oW 33 32 31] false) (.seq (.cond 33 .skip (.exit 2)) (.seq (.block 3 (sR [oN (.iaddr 34 2 none 30 32),oN (.load 35 true 2 34),oN (.alloc 6 false (.agg [I 0,I 0])),oN (.store false 2 6 35)] [0,3,6,23,24,25,30,31,32] 1 (sR [oM 36 0,oN (.load 37 true 2 6),oM 38 3,oE 39 38 0,oY 40 106 [36,37,39],oM 7 40] [0,3,7,23,24,25,30,31,32] 0 (sR [oM 41 7,oN (.bin 42 .neq 41 (.c (I 0)))] [0,3,7,23,24,25,30,31,32,42] 0 (.cond 42 (sR [oM 43 7,oM 2 43] [2] 0 .ret) .skip))))) (pR [oP 44 32 1,oM 32 44] [0,3,23,24,25,30,31,32] 0)))) [0,3,23,24,25,30,31,32] 0)
def q47:ICode:=(.post (.block 2 (.loop q7u)) [0,23,24,25] 0)
def q2k:ICode:=(pR [oP 45 25 1,oM 25 45] [0,23,24,25] 0)
def q7v:ICode:=(.post (.seq (.region [oW 26 25 24] false) (.seq (.cond 26 .skip (.exit 0)) (.seq (.block 1 (sR [oM 27 25,oA 28 23 25,oL 29 28,oM 3 27,oT 4 29] [0,3,4,23,24,25] 0 (sR [oM 30 4,oD 31 30,oK 32 0] [0,3,23,24,25,30,31,32] 0 (.cut q47)))) (.cut q2k)))) [0,23,24,25] 0)
def q48:ICode:=(.post (.block 0 (.loop q7v)) [0] 0)
def q7w:ICode:=(.post (.seq (.region [oW 66 65 64] false) (.seq (.cond 66 .skip (.exit 6)) (.seq (.block 7 (sR [oN (.iaddr 67 2 none 63 65),oN (.load 68 true 2 67),oN (.alloc 12 false (.agg [I 0,I 0])),oN (.store false 2 12 68)] [9,10,12,56,57,58,63,64,65] 1 (pR [oM 69 10,oF 70 12 0,oL 71 70,oN (.mupd 0 69 71 (.c (.bool true)))] [9,10,56,57,58,63,64,65] 0))) (pR [oP 72 65 1,oM 65 72] [9,10,56,57,58,63,64,65] 0)))) [9,10,56,57,58,63,64,65] 0)
def q49:ICode:=(.post (.block 6 (.loop q7w)) [9,10,56,57,58] 0)
def q4a:ICode:=(sR [oM 73 10,oN (.len 74 2 73),oM 75 9,oD 76 75,oW 77 74 76] [56,57,58,77] 0 (.cond 77 (sR [oK 2 6] [2] 0 .ret) .skip))
def q2l:ICode:=(pR [oP 78 58 1,oM 58 78] [56,57,58] 0)
def q4b:ICode:=(.post (.seq (.region [oW 59 58 57] false) (.seq (.cond 59 .skip (.exit 4)) (.seq (.block 5 (sR [oA 60 56 58,oL 61 60,oT 9 61] [9,56,57,58] 0 (sR [oN (.mkmap 62),oM 10 62] [9,10,56,57,58] 0 (.seq (sR [oM 63 9,oD 64 63,oK 65 0] [9,10,56,57,58,63,64,65] 0 (.cut q49)) (.cut q4a))))) (.cut q2l)))) [56,57,58] 0)
def q4c:ICode:=(.post (.block 4 (.loop q4b)) [] 0)
def q2m:ICode:=(.seq (.region [oK 2 0] false) .ret)
def q2n:ICode:=(.seq (sQ [oM 46 0,oC 47 46,oF 48 47 0,oF 49 48 1,oL 50 49,oM 51 0,oC 52 51,oF 53 52 0,oF 54 53 2,oL 55 54,oN (.buildSl 56 1 [50,55]),oD 57 56,oK 58 0] [56,57,58] 0 (.cut q4c)) (.cut q2m))
def q7x:ICode:=(sR [oK 2 0] [0] 0 (.seq (sQ [oM 13 0,oC 14 13,oF 15 14 0,oF 16 15 1,oL 17 16,oM 18 0,oC 19 18,oF 20 19 0,oF 21 20 2,oL 22 21,oN (.buildSl 23 1 [17,22]),oD 24 23,oK 25 0] [0,23,24,25] 0 (.cut q48)) (.cut q2n)))
def qy:IFunc:={np:=1,res:=[.t 2],own:=false,trunc:=true,body:=q7x }
def q7y:ICode:=(sR [oN (.box 1 true false 0),oK 2 0] [1] 0 (.seq (sQ [oL 4 1,oC 5 4,oF 6 5 0,oF 7 6 2,oL 8 7,oD 9 8,oL 10 1,oC 11 10,oF 12 11 0,oN (.load 13 true 5 12),oY 14 101 [13,(.c (I 3))],oD 15 14,oW 16 9 15] [1,16] 0 (.cond 16 (sR [oK 2 5] [2] 0 .ret) .skip)) (sQ [oL 17 1,oC 18 17,oF 19 18 0,oF 20 19 3,oL 21 20,oL 22 1,oC 23 22,oF 24 23 0,oF 25 24 4,oL 26 25,oN (.buildSl 27 1 [21,26]),oY 28 107 [27],oT 3 28] [1,3] 0 (.seq (sR [oM 29 3,oN (.mkfn 30 108 [1]),oY 31 86 [29,30]] [1,3,31] 0 (.cond 31 (sR [oK 2 5] [2] 0 .ret) .skip)) (.seq (sR [oM 32 3,oN (.mkfn 33 109 [1]),oY 34 86 [32,33]] [34] 0 (.cond 34 (sR [oK 2 1] [2] 0 .ret) .skip)) (sR [oK 2 0] [2] 0 .ret))))))
def ql:IFunc:={np:=1,res:=[.t 2],own:=false,trunc:=true,body:=q7y }
def q7z:ICode:=(sR [oB 1 0,oN (.mv 2 (.c (.sl true 1 [])))] [1] 1 (sQ [oF 3 1 2,oL 4 3,oF 5 1 3,oL 6 5,oF 7 1 4,oL 8 7,oN (.buildSl 9 1 [4,6,8]),oF 10 1 0,oL 11 10,oY 12 63 [11],oN (.slice 13 1 9 none (some 12)),oT 2 13] [2] 0 .ret))
def qm:IFunc:={np:=1,res:=[.t 2],own:=true,trunc:=true,body:=q7z }
def q1h:ICode:=(pR [oP 24 11 1,oM 11 24] [1,5,9,10,11] 0)
def q80:ICode:=(.post (.seq (.region [oW 12 11 10] false) (.seq (.cond 12 .skip (.exit 0)) (.seq (.block 1 (sR [oM 13 11,oN (.iaddr 14 6 none 9 11),oN (.load 15 true 6 14),oN (.alloc 7 false (.agg [I 0,I 0,I 0,I 0,I 0,I 0])),oM 6 13,oN (.store false 6 7 15)] [1,5,6,7,9,10,11] 1 (sR [oF 16 7 0,oL 17 16,oM 18 1,oN (.bin 19 .eql 17 18)] [1,5,6,9,10,11,19] 0 (.cond 19 (.post (pR [oT 20 5,oM 21 6,oN (.buildSl 22 1 [21]),oN (.append 23 1 8 20 22),oT 5 23] [1,5,9,10,11] 0) [1,5,9,10,11] 0) (.post .skip [1,5,9,10,11] 0))))) (.cut q1h)))) [1,5,9,10,11] 0)
def q4d:ICode:=(.post (.block 0 (.loop q80)) [5] 0)
def q4e:ICode:=(sR [oM 25 5,oT 4 25] [4] 0 .ret)
def q81:ICode:=(sR [oB 2 0,oN (.mv 4 (.c (.sl true 1 [])))] [1,2] 1 (.seq (.region [oN (.mv 5 (.c (.sl true 1 [])))] false) (.seq (sR [oF 8 2 0,oL 9 8,oD 10 9,oK 11 0] [1,5,9,10,11] 0 (.cut q4d)) (.cut q4e))))
def q4f:IFunc:={np:=2,res:=[.t 4],own:=false,trunc:=true,body:=q81 }
def q82:ICode:=(sR [oN (.mv 2 (.c (.bool false)))] [0] 0 (sR [oM 3 0,oN (.bin 4 .geq 3 (.c (I 1))),oM 5 4,gT (.mv 6 0) 5,gT (.bin 7 .leq 6 (.c (I 3))) 5,oN (.pick 8 5 7 (.c (.bool false))),oM 2 8] [2] 0 .ret))
def q1i:IFunc:={np:=1,res:=[.t 2],own:=false,trunc:=true,body:=q82 }
def q83:ICode:=(.post (.seq (.region [oW 12 11 10] false) (.seq (.cond 12 .skip (.exit 0)) (.seq (.block 1 (sR [oM 13 11,oA 14 9 11,oL 15 14,oM 6 13,oM 7 15] [0,4,5,6,7,9,10,11] 3 (pR [oM 16 6,oM 17 0,oM 18 7,oN (.iaddr 19 6 none 17 18),oF 20 19 1,oL 21 20,oN (.iaddr 22 1 (some 3) 5 16),oN (.store false 1 22 21)] [0,4,5,9,10,11] 3))) (pR [oP 23 11 1,oM 11 23] [0,4,5,9,10,11] 3)))) [0,4,5,9,10,11] 3)
def q2o:ICode:=(.post (.block 0 (.loop q83)) [4,5] 3)
def q4g:ICode:=(sR [oN (.load 24 true 3 5),oN (.store false 3 4 24)] [4] 2 .ret)
def q84:ICode:=(sR [oB 3 1,oN (.alloc 4 false (.agg [I 0,I 0,I 0]))] [0,3,4] 2 (.seq (.region [oN (.alloc 5 false (.agg [I 0,I 0,I 0]))] false) (.seq (sR [oN (.load 8 true 6 3),oY 9 81 [8],oD 10 9,oK 11 0] [0,4,5,9,10,11] 3 (.cut q2o)) (.cut q4g))))
def q4h:IFunc:={np:=2,res:=[.cell 4 true 3],own:=false,trunc:=true,body:=q84 }
def q85:ICode:=(.post (.seq (.region [oW 11 10 9] false) (.seq (.cond 11 .skip (.exit 0)) (.seq (.block 1 (sR [oA 12 8 10,oL 13 12,oM 7 13] [2,5,7,8,9,10] 1 (pR [oM 14 5,oF 15 2 0,oL 16 15,oM 17 7,oN (.iaddr 18 6 none 16 17),oF 19 18 1,oL 20 19,oN (.bin 21 .add 14 20),oM 5 21] [2,5,8,9,10] 1))) (pR [oP 22 10 1,oM 10 22] [2,5,8,9,10] 1)))) [2,5,8,9,10] 1)
def q4i:ICode:=(.post (.block 0 (.loop q85)) [5] 0)
def q4j:ICode:=(sR [oM 23 5,oM 4 23] [4] 0 .ret)
def q86:ICode:=(sR [oB 2 0,oK 4 0] [1,2] 1 (.seq (.region [oK 5 0] false) (.seq (sR [oM 8 1,oD 9 8,oK 10 0] [2,5,8,9,10] 1 (.cut q4i)) (.cut q4j))))
def q4k:IFunc:={np:=2,res:=[.t 4],own:=false,trunc:=true,body:=q86 }
def q87:ICode:=(sR [oB 4 1,oK 6 0] [0,2,4] 1 (.seq (.block 0 (sQ [oM 8 0,oF 9 4 0,oL 10 9,oY 11 118 [8,10],oN (.un 12 .not 11),oM 13 12,gM 14 0 13,gF 15 4 1 13,gL 16 15 13,gN (.call (some 17) true 118 [14,16]) 13,gN (.un 18 .not 17) 13,oN (.pick 19 13 (.c (.bool true)) 18),oM 20 19,gM 21 0 20,gN (.nilc 22 21) 20,gF 23 22 0 20,gF 24 23 0 20,gL 25 24 20,gF 26 4 0 20,gL 27 26 20,gN (.iaddr 28 6 none 25 27) 20,gF 29 28 0 20,gL 30 29 20,gN (.bin 31 .neq 30 (.c (I 3))) 20,oN (.pick 32 20 (.c (.bool true)) 31),oM 7 32] [0,2,4,7] 1 (.cond 7 (sR [oK 6 5] [6] 0 .ret) (sQ [oM 34 0,oC 35 34,oF 36 35 0,oF 37 36 0,oL 38 37,oF 39 4 0,oL 40 39,oN (.iaddr 41 6 none 38 40),oF 42 41 1,oL 43 42,oM 44 0,oC 45 44,oF 46 45 0,oF 47 46 0,oL 48 47,oF 49 4 1,oL 50 49,oN (.iaddr 51 6 none 48 50),oF 52 51 1,oL 53 52,oN (.bin 54 .neq 43 53),oM 33 54] [0,2,4,33] 1 (.cond 33 (sR [oK 6 1] [6] 0 .ret) (sQ [oM 56 2,
 oM 57 56,gT (.mv 58 0) 57,gT (.nilc 59 58) 57,gT (.faddr 60 59 5) 57,gT (.load 61 false 1 60) 57,gT (.faddr 62 4 1) 57,gT (.load 63 false 1 62) 57,gT (.iaddr 64 1 none 61 63) 57,gT (.load 65 false 1 64) 57,oN (.pick 66 57 65 (.c (.bool false))),oM 55 66] [55] 0 (.cond 55 (sR [oK 6 4] [6] 0 .ret) .skip))))))) (sR [oK 6 0] [6] 0 .ret)))
def q4l:IFunc:={np:=3,res:=[.t 6],own:=false,trunc:=true,body:=q87 }
def q88:ICode:=(sR [oN (.mv 3 (.c (.bool false)))] [0,1] 0 (sR [oL 4 1,oM 5 0,oY 6 118 [4,5],oN (.un 7 .not 6),oM 3 7] [3] 0 .ret))
def q4m:IFunc:={np:=2,res:=[.t 3],own:=false,trunc:=true,body:=q88 }
def q89:ICode:=(sR [oN (.mv 3 (.c (.bool false)))] [0,1] 0 (sR [oL 4 1,oC 5 4,oF 6 5 0,oF 7 6 0,oL 8 7,oM 9 0,oN (.iaddr 10 6 none 8 9),oF 11 10 1,oL 12 11,oN (.bin 13 .neq 12 (.c (I 1))),oM 3 13] [3] 0 .ret))
def q4n:IFunc:={np:=2,res:=[.t 3],own:=false,trunc:=true,body:=q89 }
def q8a:ICode:=(sR [oN (.mv 4 (.c (.bool false)))] [0,1] 0 (sR [oM 5 1,oN (.bin 6 .geq 5 (.c (I 0))),oM 7 6,gT (.mv 8 1) 7,gT (.mv 9 0) 7,gT (.nilc 10 9) 7,gT (.faddr 11 10 0) 7,gT (.faddr 12 11 0) 7,gT (.load 13 false 1 12) 7,gT (.len 14 0 13) 7,gT (.bin 15 .lss 8 14) 7,oN (.pick 16 7 15 (.c (.bool false))),oM 4 16] [4] 0 .ret))
def q1j:IFunc:={np:=2,res:=[.t 4],own:=false,trunc:=true,body:=q8a }
def q8b:ICode:=(sR [oN (.box 2 true false 0),oB 3 1,oN (.mv 4 (.c (.bool false))),oK 5 0] [2,3] 1 (.seq (sR [oN (.load 9 true 5 2),oN (.load 10 true 2 3),oY 11 248 [9,10],oM 6 11] [2,3,6] 1 (sR [oM 12 6,oN (.bin 13 .neq 12 (.c (I 0)))] [2,3,6,13] 1 (.cond 13 (sR [oM 14 6,oN (.mv 4 (.c (.bool false))),oM 5 14] [4,5] 0 .ret) .skip))) (sR [oN (.alloc 7 true (.bool false)),oN (.alloc 8 true (.bool false)),oN (.store false 1 7 (.c (.bool true))),oN (.store false 1 8 (.c (.bool false)))] [2,3,7,8] 1 (sR [oN (.load 15 true 5 2),oN (.load 16 true 2 3),oN (.mkfn 17 252 [2,7,8]),oX 18 253 [15,16,17]] [7,8] 0 (sR [oL 19 7,oM 20 19,gT (.load 21 false 1 8) 20,oN (.pick 22 20 21 (.c (.bool false))),oM 4 22,oK 5 0] [4,5] 0 .ret)))))
def q1k:IFunc:={np:=2,res:=[.t 4,.t 5],own:=false,trunc:=true,body:=q8b }
def q9p:ICode:=(.post (.seq (.region [oW 26 25 24] false) (.seq (.cond 26 .skip (.exit 0)) (.seq (.block 1 (sR [oA 27 23 25,oL 28 27,oT 5 28] [1,5,23,24,25] 1 (sR [oM 29 5,oD 30 29,oN (.bin 31 .gtr 30 (.c (I 20)))] [1,23,24,25,31] 1 (.cond 31 (sR [oN (.mv 2 (.c (.str ByteArray.empty))),oK 3 2] [2,3] 0 .ret) .skip)))) (pR [oP 32 25 1,oM 25 32] [1,23,24,25] 1)))) [1,23,24,25] 1)
def q9q:ICode:=(.post (.block 0 (.loop q9p)) [1] 1)
def q9r:ICode:=(.post (.seq (.region [oW 43 42 41] false) (.seq (.cond 43 .skip (.exit 2)) (.seq (.block 3 (sR [oA 44 40 42,oL 45 44,oT 9 45] [6,7,9,40,41,42] 0 (sR [oM 47 9,oN (.call (some 48) true 254 [(.c (.str ⟨#[105,110]⟩)),47]),oM 46 48,oG 49 46 0,oG 50 46 1,oM 10 49,oM 11 50] [6,7,10,11,40,41,42] 0 (sR [oM 51 6,oM 52 10,oN (.bin 53 .add 51 52),oM 6 53] [6,7,11,40,41,42] 0 (pR [oM 54 7,oM 55 54,gT (.mv 56 11) 55,oN (.pick 57 55 56 (.c (.bool false))),oM 7 57] [6,7,40,41,42] 0))))) (pR [oP 58 42 1,oM 42 58] [6,7,40,41,42] 0)))) [6,7,40,41,42] 0)
def q9s:ICode:=(.post (.block 2 (.loop q9r)) [6,7] 0)
def q9t:ICode:=(.seq (sR [oM 59 7,oN (.un 60 .not 59)] [6,60] 0 (.cond 60 (sR [oN (.mv 2 (.c (.str ByteArray.empty))),oK 3 3] [2,3] 0 .ret) .skip)) (sR [oM 61 6,oM 2 61,oK 3 0] [2,3] 0 .ret))
def q9u:ICode:=(sR [oF 34 1 0,oL 35 34,oN (.call (some 36) true 254 [(.c (.str ⟨#[115,116,97,114,116]⟩)),35]),oM 33 36,oG 37 33 0,oG 38 33 1,oM 6 37,oM 7 38] [1,6,7] 1 (.seq (sR [oF 39 1 1,oL 40 39,oD 41 40,oK 42 0] [6,7,40,41,42] 0 (.cut q9s)) (.cut q9t)))
def q9v:ICode:=(sR [oB 1 0,oN (.mv 2 (.c (.str ByteArray.empty))),oK 3 0] [1] 1 (.seq (sR [oF 12 1 1,oL 13 12,oD 14 13,oN (.bin 15 .gtr 14 (.c (I 41))),oM 16 15,gF 17 1 0 16,gL 18 17 16,gN (.len 19 0 18) 16,gN (.bin 20 .gtr 19 (.c (I 20))) 16,oN (.pick 21 16 (.c (.bool true)) 20)] [1,21] 1 (.cond 21 (sR [oN (.mv 2 (.c (.str ByteArray.empty))),oK 3 2] [2,3] 0 .ret) .skip)) (.seq (sR [oF 22 1 1,oL 23 22,oD 24 23,oK 25 0] [1,23,24,25] 1 (.cut q9q)) (.cut q9u))))
def q9w:IFunc:={np:=1,res:=[.t 2,.t 3],own:=false,trunc:=true,body:=q9v }
def q9x:ICode:=(pR [oM 53 7,oM 0 53] [0,2,4,5] 2)
def q9y:ICode:=(sR [oM 31 6,oM 32 9,oY 33 256 [31,32],oM 30 33,oG 34 30 0,oG 35 30 1,oT 10 34,oM 11 35] [2,4,5,7,8,10,11] 2 (.seq (sR [oM 36 8,oN (.un 37 .not 36),oM 38 37,gM 39 11 38,gN (.un 40 .not 39) 38,oN (.pick 41 38 (.c (.bool true)) 40)] [2,4,5,7,10,41] 2 (.cond 41 (sR [oN (.build 42 [.sl true 1 [],.sl true 1 []] []),oN (.store true 2 2 42),oK 3 1] [2,3] 1 .ret) .skip)) (.seq (sR [oM 43 5,oE 44 43 0] [2,4,5,7,10,44] 2 (.cond 44 (.post (pR [oM 45 10,oF 46 4 0,oN (.store true 1 46 45)] [2,4,5,7] 2) [2,4,5,7] 2) (.post (pR [oF 47 4 1,oN (.loadT 48 47),oM 49 10,oN (.buildSl 50 1 [49]),oN (.append 51 1 24 48 50),oF 52 4 1,oN (.store true 1 52 51)] [2,4,5,7] 2) [2,4,5,7] 2))) (.cut q9x))))
def q9z:ICode:=(pR [oM 20 5,oP 21 20 1,oM 5 21] [0,2,4,5] 2)
def qa0:ICode:=(.post (.seq (sR [oM 14 0,oN (.bin 15 .neq 14 (.c (.str ByteArray.empty))),oM 16 15,gM 17 5 16,gN (.bin 18 .eql 17 (.c (I 0))) 16,oN (.pick 19 16 (.c (.bool true)) 18)] [0,2,4,5,19] 2 (.cond 19 .skip (.exit 0))) (.seq (.block 1 (sR [oM 23 0,oN (.call (some 24) true 255 [23,(.c (.str ⟨#[10]⟩))]),oM 22 24,oG 25 22 0,oG 26 22 1,oG 27 22 2,oM 6 25,oM 7 26,oM 8 27] [2,4,5,6,7,8] 2 (.seq (.region [oN (.mv 9 (.c (.str ⟨#[105,110]⟩)))] false) (.seq (sR [oM 28 5,oE 29 28 0] [2,4,5,6,7,8,9,29] 2 (.cond 29 (.post (pR [oN (.mv 9 (.c (.str ⟨#[115,116,97,114,116]⟩)))] [2,4,5,6,7,8,9] 2) [2,4,5,6,7,8,9] 2) (.post .skip [2,4,5,6,7,8,9] 2))) (.cut q9y))))) (.cut q9z))) [0,2,4,5] 2)
def qa1:ICode:=(.post (.block 0 (.loop qa0)) [2,4] 2)
def qa2:ICode:=(.seq (sR [oN (.load 55 true 2 4),oY 56 246 [55],oM 54 56,oG 57 54 0,oG 58 54 1,oM 12 57,oM 13 58] [2,4,13] 2 (sR [oM 59 13,oN (.bin 60 .neq 59 (.c (I 0)))] [2,4,60] 2 (.cond 60 (sR [oN (.build 61 [.sl true 1 [],.sl true 1 []] []),oN (.store true 2 2 61),oK 3 1] [2,3] 1 .ret) .skip))) (sR [oN (.load 62 true 2 4),oN (.store true 2 2 62),oK 3 0] [2,3] 1 .ret))
def qa3:ICode:=(sR [oN (.alloc 2 false (.agg [.sl true 1 [],.sl true 1 []])),oK 3 0] [0,2] 1 (.seq (.region [oN (.alloc 4 false (.agg [.sl true 1 [],.sl true 1 []]))] false) (.seq (sR [oK 5 0] [0,2,4,5] 2 (.cut qa1)) (.cut qa2))))
def qa4:IFunc:={np:=1,res:=[.cell 2 true 2,.t 3],own:=false,trunc:=true,body:=qa3 }
def q8c:ICode:=(.post (.seq (.region [oW 38 37 36] false) (.seq (.cond 38 .skip (.exit 0)) (.seq (.block 1 (sR [oA 39 35 37,oL 40 39,oT 8 40] [2,8,35,36,37] 1 (sQ [oN (.load 41 true 5 2),oN (.load 42 true 5 2),oY 43 101 [42,(.c (I 2))],oM 44 8,oY 45 135 [41,43,44],oM 9 45] [2,9,35,36,37] 1 (sR [oM 46 9,oN (.bin 47 .neq 46 (.c (I 0)))] [2,9,35,36,37,47] 1 (.cond 47 (sR [oM 48 9,oM 4 48] [4] 0 .ret) .skip))))) (pR [oP 49 37 1,oM 37 49] [2,35,36,37] 1)))) [2,35,36,37] 1)
def q4o:ICode:=(.post (.block 0 (.loop q8c)) [] 0)
def q2p:ICode:=(.seq (.region [oK 4 0] false) .ret)
def q8d:ICode:=(sR [oB 2 0,oB 3 1,oK 4 0] [2,3] 2 (.seq (sR [oN (.load 10 true 5 2),oY 11 38 [10],oM 5 11] [2,3,5] 2 (sR [oM 12 5,oN (.bin 13 .neq 12 (.c (I 0)))] [2,3,5,13] 2 (.cond 13 (sR [oM 14 5,oM 4 14] [4] 0 .ret) .skip))) (.seq (sR [oF 15 3 1,oL 16 15,oD 17 16,oN (.bin 18 .lss 17 (.c (I 1))),oM 19 18,gF 20 3 1 19,gL 21 20 19,gN (.len 22 0 21) 19,gN (.bin 23 .gtr 22 (.c (I 41))) 19,oN (.pick 24 19 (.c (.bool true)) 23)] [2,3,24] 2 (.cond 24 (sR [oK 4 2] [4] 0 .ret) .skip)) (.seq (sQ [oN (.load 25 true 5 2),oN (.load 26 true 5 2),oY 27 101 [26,(.c (I 3))],oF 28 3 0,oL 29 28,oY 30 135 [25,27,29],oM 6 30] [2,3,6] 2 (sR [oM 31 6,oN (.bin 32 .neq 31 (.c (I 0)))] [2,3,6,32] 2 (.cond 32 (sR [oM 33 6,oM 4 33] [4] 0 .ret) .skip))) (.seq (sR [oF 34 3 1,oL 35 34,oD 36 35,oK 37 0] [2,35,36,37] 1 (.cut q4o)) (.cut q2p))))))
def qe:IFunc:={np:=2,res:=[.t 4],own:=false,trunc:=true,body:=q8d }
def q8e:ICode:=(sR [oN (.load 10 true 5 2),oM 11 1,oY 12 141 [10,11],oM 9 12,oG 13 9 0,oG 14 9 1,oM 7 13,oM 8 14] [3,4,7,8] 0 (pR [oL 15 3,oM 16 15,gT (.mv 17 7) 16,oN (.pick 18 16 17 (.c (.bool false))),oM 19 8,oN (.store false 1 3 18),oN (.store false 1 4 19)] [] 0))
def q4p:IFunc:={np:=5,res:=[],own:=false,trunc:=false,body:=q8e }
def q8f:ICode:=(.post (.seq (.region [oW 18 17 16] false) (.seq (.cond 18 .skip (.exit 0)) (.seq (.block 1 (sR [oA 19 15 17,oL 20 19,oT 8 20] [2,3,6,8,15,16,17] 1 (sR [oN (.load 21 true 5 3),oM 22 6,oM 23 8,oY 24 139 [21,22,23],oT 9 24] [2,3,6,9,15,16,17] 1 (sR [oM 25 2,oM 26 6,oM 27 9,oN (.callv (some 28) false 25 [26,27])] [2,3,9,15,16,17] 1 (pR [oN (.load 29 true 5 3),oM 30 9,oY 31 140 [29,30],oT 6 31] [2,3,6,15,16,17] 1))))) (pR [oP 32 17 1,oM 17 32] [2,3,6,15,16,17] 1)))) [2,3,6,15,16,17] 1)
def q4q:ICode:=(.post (.block 0 (.loop q8f)) [] 0)
def q4r:ICode:=(sR [oB 3 0,oB 4 1] [2,3,4] 2 (sR [oN (.load 10 true 5 3),oF 11 4 0,oL 12 11,oY 13 136 [10,12],oT 6 13] [2,3,4,6] 2 (sR [oF 14 4 1,oL 15 14,oD 16 15,oK 17 0] [2,3,6,15,16,17] 1 (.cut q4q))))
def q4s:IFunc:={np:=3,res:=[],own:=false,trunc:=false,body:=q4r }
def qa5:ICode:=(.post (.seq (.region [oW 14 13 12] false) (.seq (.cond 14 .skip (.exit 0)) (.seq (.block 1 (sR [oA 15 11 13,oL 16 15,oM 9 16] [6,7,9,11,12,13] 0 (sR [oM 17 6,oM 18 9,oY 19 260 [18],oN (.bin 20 .add (.c (.str ⟨#[32]⟩)) 19),oN (.bin 21 .add 17 20),oM 6 21] [6,7,9,11,12,13] 0 (pR [oM 22 7,oM 23 22,gT (.mv 24 9) 23,gT (.bin 25 .geq 24 (.c (I 0))) 23,oN (.pick 26 23 25 (.c (.bool false))),oM 27 26,gT (.mv 28 9) 27,gT (.bin 29 .leq 28 (.c (I 255))) 27,oN (.pick 30 27 29 (.c (.bool false))),oM 7 30] [6,7,11,12,13] 0)))) (pR [oP 31 13 1,oM 13 31] [6,7,11,12,13] 0)))) [6,7,11,12,13] 0)
def qa6:ICode:=(.post (.block 0 (.loop qa5)) [6,7] 0)
def qa7:ICode:=(sR [oM 32 6,oN (.bin 33 .add 32 (.c (.str ⟨#[10]⟩))),oM 34 7,oM 4 33,oM 5 34] [4,5] 0 .ret)
def qa8:ICode:=(sR [oN (.mv 4 (.c (.str ByteArray.empty))),oN (.mv 5 (.c (.bool false)))] [0,1] 0 (sR [oM 10 0,oM 6 10] [1,6] 0 (.seq (.region [oN (.mv 7 (.c (.bool true)))] false) (.seq (sR [oM 11 1,oD 12 11,oK 13 0] [6,7,11,12,13] 0 (.cut qa6)) (.cut qa7)))))
def qa9:IFunc:={np:=2,res:=[.t 4,.t 5],own:=false,trunc:=true,body:=qa8 }
def qaa:ICode:=(.post (.seq (.region [oW 23 22 21] false) (.seq (.cond 23 .skip (.exit 0)) (.seq (.block 1 (sR [oA 24 20 22,oL 25 24,oM 9 25] [7,9,20,21,22] 0 (sR [oM 27 9,oY 28 263 [27],oM 26 28,oG 29 26 0,oG 30 26 1,oM 10 29,oM 11 30] [7,9,10,11,20,21,22] 0 (.seq (sR [oM 31 11,oN (.eqn 32 true 31),oM 33 32,gM 34 10 33,gN (.call (some 35) true 260 [34]) 33,gM 36 9 33,gN (.bin 37 .neq 35 36) 33,oN (.pick 38 33 (.c (.bool true)) 37)] [7,10,20,21,22,38] 0 (.cond 38 (sR [oN (.mv 4 (.c (.sl true 1 []))),oN (.mv 5 (.c (.bool false)))] [4,5] 0 .ret) .skip)) (pR [oT 39 7,oM 40 10,oN (.buildSl 41 1 [40]),oN (.append 42 1 8 39 41),oT 7 42] [7,20,21,22] 0))))) (pR [oP 43 22 1,oM 22 43] [7,20,21,22] 0)))) [7,20,21,22] 0)
def qab:ICode:=(.post (.block 0 (.loop qaa)) [7] 0)
def qac:ICode:=(sR [oM 44 7,oT 4 44,oN (.mv 5 (.c (.bool true)))] [4,5] 0 .ret)
def qad:ICode:=(sR [oN (.mv 4 (.c (.sl true 1 []))),oN (.mv 5 (.c (.bool false)))] [0,1] 0 (sR [oM 12 0,oN (.call (some 13) true 262 [12,(.c (.str ⟨#[32]⟩))]),oT 6 13] [1,6] 0 (.seq (sR [oM 14 6,oN (.iaddr 15 1 none 14 (.c (I 0))),oL 16 15,oM 17 1,oN (.bin 18 .neq 16 17)] [6,18] 0 (.cond 18 (sR [oN (.mv 4 (.c (.sl true 1 []))),oN (.mv 5 (.c (.bool false)))] [4,5] 0 .ret) .skip)) (sR [oN (.mv 7 (.c (.sl true 1 [])))] [6,7] 0 (.seq (sR [oM 19 6,oN (.slice 20 1 19 (some (.c (I 1))) none),oD 21 20,oK 22 0] [7,20,21,22] 0 (.cut qab)) (.cut qac))))))
def qae:IFunc:={np:=2,res:=[.t 4,.t 5],own:=false,trunc:=true,body:=qad }
def q8g:ICode:=(sR [oB 2 0,oB 3 1,oN (.mv 4 (.c (.sl true 1 []))),oK 5 0] [2,3] 2 (.seq (sR [oN (.load 8 true 5 2),oN (.load 9 true 2 3),oY 10 248 [8,9],oM 6 10] [2,3,6] 2 (sR [oM 11 6,oN (.bin 12 .neq 11 (.c (I 0)))] [2,3,6,12] 2 (.cond 12 (sR [oM 13 6,oN (.mv 4 (.c (.sl true 1 []))),oM 5 13] [4,5] 0 .ret) .skip))) (sR [oN (.alloc 7 true (.sl true 1 []))] [2,3,7] 2 (sR [oN (.load 14 true 5 2),oN (.load 15 true 2 3),oN (.mkfn 16 382 [7]),oX 17 253 [14,15,16]] [7] 0 (sR [oL 18 7,oT 4 18,oK 5 0] [4,5] 0 .ret)))))
def q1l:IFunc:={np:=2,res:=[.t 4,.t 5],own:=false,trunc:=true,body:=q8g }
def q8h:ICode:=(pR [oN (.loadT 5 2),oM 6 0,oN (.buildSl 7 1 [6]),oN (.append 8 1 24 5 7),oN (.store true 1 2 8)] [] 0)
def q4t:IFunc:={np:=3,res:=[],own:=false,trunc:=false,body:=q8h }
def q8i:ICode:=(.post (.seq (.region [oN (.bin 26 .lss 25 (.c (I 3)))] false) (.seq (.cond 26 .skip (.exit 0)) (.seq (.block 1 (sR [oM 27 25,oN (.index 28 1 3 false 24 25),oM 11 27,oM 12 28] [0,1,2,7,9,11,12,24,25] 1 (sR [oM 29 11,oM 30 0,oY 31 63 [30],oW 32 29 31,oM 33 32,gT (.mv 34 12) 33,gT (.call (some 35) true 62 [34]) 33,gT (.un 36 .not 35) 33,oN (.pick 37 33 36 (.c (.bool false))),oM 38 37,gM 39 11 38,gM 40 0 38,gN (.call (some 41) true 63 [40]) 38,gN (.bin 42 .geq 39 41) 38,gM 43 42 38,gT (.mv 44 12) 43,gT (.bin 45 .neq 44 (.c (I 0))) 43,gN (.pick 46 43 45 (.c (.bool false))) 38,oN (.pick 47 38 (.c (.bool true)) 46)] [0,1,2,7,9,24,25,47] 1 (.cond 47 (sR [oK 8 3] [8] 0 .ret) .skip)))) (pR [oP 48 25 1,oM 25 48] [0,1,2,7,9,24,25] 1)))) [0,1,2,7,9,24,25] 1)
def q4u:ICode:=(.post (.block 0 (.loop q8i)) [1,2,7,9] 1)
def q4v:ICode:=(.seq (sR [oM 49 9,oM 50 1,oM 51 2,oN (.load 52 true 3 7),oY 53 64 [49,50,51,52],oN (.un 54 .not 53)] [54] 0 (.cond 54 (sR [oK 8 1] [8] 0 .ret) .skip)) (sR [oK 8 0] [8] 0 .ret))
def q8j:ICode:=(sR [oB 7 3,oK 8 0] [0,1,2,7] 1 (sR [oX 14 61 [],oM 15 0,oN (.lookup 16 0 14 15 true (I 0)),oM 13 16,oG 17 13 0,oG 18 13 1,oM 9 17,oM 10 18] [0,1,2,7,9,10] 1 (.seq (sR [oM 19 10,oN (.un 20 .not 19)] [0,1,2,7,9,20] 1 (.cond 20 (sR [oK 8 7] [8] 0 .ret) .skip)) (.seq (sR [oM 21 1,oY 22 62 [21],oN (.un 23 .not 22)] [0,1,2,7,9,23] 1 (.cond 23 (sR [oK 8 3] [8] 0 .ret) .skip)) (.seq (sR [oN (.load 24 true 3 7),oK 25 0] [0,1,2,7,9,24,25] 1 (.cut q4u)) (.cut q4v))))))
def qg:IFunc:={np:=4,res:=[.t 8],own:=false,trunc:=true,body:=q8j }
def q8k:ICode:=(sR [oN (.mv 0 (.c (.nilm)))] [] 0 (sR [oN (.mkmap 1),oN (.mupd 0 1 (.c (I 4)) (.c (I 1))),oN (.mupd 0 1 (.c (I 5)) (.c (I 1))),oN (.mupd 0 1 (.c (I 6)) (.c (I 2))),oN (.mupd 0 1 (.c (I 7)) (.c (I 2))),oN (.mupd 0 1 (.c (I 8)) (.c (I 2))),oN (.mupd 0 1 (.c (I 9)) (.c (I 2))),oN (.mupd 0 1 (.c (I 10)) (.c (I 2))),oN (.mupd 0 1 (.c (I 11)) (.c (I 2))),oN (.mupd 0 1 (.c (I 12)) (.c (I 2))),oN (.mupd 0 1 (.c (I 13)) (.c (I 2))),oN (.mupd 0 1 (.c (I 14)) (.c (I 2))),oN (.mupd 0 1 (.c (I 15)) (.c (I 2))),oN (.mupd 0 1 (.c (I 16)) (.c (I 3))),oN (.mupd 0 1 (.c (I 17)) (.c (I 3))),oN (.mupd 0 1 (.c (I 18)) (.c (I 3))),oN (.mupd 0 1 (.c (I 19)) (.c (I 4))),oN (.mupd 0 1 (.c (I 20)) (.c (I 5))),oN (.mupd 0 1 (.c (I 21)) (.c (I 6))),oN (.mupd 0 1 (.c (I 22)) (.c (I 7))),oN (.mupd 0 1 (.c (I 23)) (.c (I 7))),oM 2 1,oM 0 2] [0] 0 .ret))
def q4w:IFunc:={np:=0,res:=[.t 0],own:=false,trunc:=false,body:=q8k }
def q8l:ICode:=(sR [oN (.mv 2 (.c (.bool false)))] [0] 0 (sR [oM 3 0,oN (.bin 4 .geq 3 (.c (I 1))),oM 5 4,gT (.mv 6 0) 5,gT (.bin 7 .leq 6 (.c (I 8))) 5,oN (.pick 8 5 7 (.c (.bool false))),oM 2 8] [2] 0 .ret))
def q1m:IFunc:={np:=1,res:=[.t 2],own:=false,trunc:=true,body:=q8l }
def q1n:ICode:=(.cond 8 (sR [oK 2 1] [2] 0 .ret) (sR [oE 13 5 4,oM 12 13] [12] 0 (.cond 12 (sR [oK 2 3] [2] 0 .ret) .skip)))
def q1o:ICode:=(sR [oK 2 2] [2] 0 .ret)
def q8m:ICode:=(sR [oK 2 0] [0] 0 (.seq (sR [oX 3 61 [],oM 4 0,oN (.lookup 5 0 3 4 false (I 0))] [5] 0 (.block 0 (sR [oE 7 5 0,oM 6 7] [5,6] 0 (.cond 6 (sR [oK 2 0] [2] 0 .ret) (.seq (sR [oE 9 5 1,oM 8 9] [5,8] 0 (.cond 8 (.post .skip [5,8] 0) (.post (sR [oE 10 5 6,oM 8 10] [5,8] 0 (.cond 8 (.post .skip [5,8] 0) (.post (pR [oE 11 5 7,oM 8 11] [5,8] 0) [5,8] 0))) [5,8] 0))) (.cut q1n)))))) (.cut q1o)))
def qh:IFunc:={np:=1,res:=[.t 2],own:=false,trunc:=true,body:=q8m }
def q8n:ICode:=(sR [oB 7 3,oN (.mv 8 (.c (.bool false)))] [0,1,2,7] 1 (.seq (sR [oM 9 2,oN (.bin 10 .neq 9 (.c (I 0))),oM 11 10,gT (.mv 12 0) 11,gT (.bin 13 .neq 12 (.c (I 6))) 11,oN (.pick 14 11 13 (.c (.bool false)))] [0,1,2,7,14] 1 (.cond 14 (sR [oN (.mv 8 (.c (.bool false)))] [8] 0 .ret) .skip)) (.seq (sR [oM 15 0] [1,2,7,15] 1 (.block 0 (sR [oE 17 15 1,oM 16 17] [1,2,7,15,16] 1 (.cond 16 (sR [oN (.iaddr 18 1 (some 3) 7 (.c (I 0))),oL 19 18,oM 20 1,oN (.bin 21 .eql 19 20),oM 8 21] [8] 0 .ret) (sR [oE 23 15 2,oM 22 23] [1,2,7,15,22] 1 (.cond 22 (sR [oN (.iaddr 24 1 (some 3) 7 (.c (I 0))),oL 25 24,oM 26 1,oN (.bin 27 .eql 25 26),oM 28 27,gT (.iaddr 29 1 (some 3) 7 (.c (I 1))) 28,gT (.load 30 false 1 29) 28,gT (.mv 31 1) 28,gT (.bin 32 .eql 30 31) 28,oN (.pick 33 28 32 (.c (.bool false))),oM 8 33] [8] 0 .ret) (sR [oE 35 15 3,oM 34 35] [1,2,7,15,34] 1 (.cond 34 (sR [
 oN (.iaddr 36 1 (some 3) 7 (.c (I 0))),oL 37 36,oN (.iaddr 38 1 (some 3) 7 (.c (I 1))),oL 39 38,oN (.bin 40 .eql 37 39),oM 41 40,gT (.mv 42 1) 41,gT (.bin 43 .eql 42 (.c (I 1))) 41,oN (.pick 44 41 43 (.c (.bool false))),oM 8 44] [8] 0 .ret) (sR [oE 46 15 4,oM 45 46] [1,2,7,15,45] 1 (.cond 45 (sR [oN (.iaddr 47 1 (some 3) 7 (.c (I 0))),oL 48 47,oE 49 48 1,oM 50 49,gT (.iaddr 51 1 (some 3) 7 (.c (I 1))) 50,gT (.load 52 false 1 51) 50,gT (.mv 53 1) 50,gT (.bin 54 .eql 52 53) 50,oN (.pick 55 50 54 (.c (.bool false))),oM 56 55,gT (.iaddr 57 1 (some 3) 7 (.c (I 2))) 56,gT (.load 58 false 1 57) 56,gT (.mv 59 1) 56,gT (.bin 60 .eql 58 59) 56,oN (.pick 61 56 60 (.c (.bool false))),oM 8 61] [8] 0 .ret) (sR [oE 63 15 5,oM 62 63] [1,2,7,15,62] 1
 (.cond 62 (sR [oN (.iaddr 64 1 (some 3) 7 (.c (I 0))),oL 65 64,oN (.iaddr 66 1 (some 3) 7 (.c (I 1))),oL 67 66,oN (.bin 68 .add 65 67),oM 69 1,oN (.bin 70 .eql 68 69),oM 8 70] [8] 0 .ret) (sR [oE 72 15 6,oM 71 72] [1,2,7,71] 1 (.cond 71 (sR [oM 73 2,oN (.bin 74 .geq 73 (.c (I 0))),oM 75 74,gT (.mv 76 2) 75,gT (.iaddr 77 1 (some 3) 7 (.c (I 0))) 75,gT (.load 78 false 1 77) 75,gT (.mv 79 1) 75,gT (.bin 80 .sub 78 79) 75,gT (.bin 81 .leq 76 80) 75,oN (.pick 82 75 81 (.c (.bool false))),oM 8 82] [8] 0 .ret) .skip)))))))))))))) (sR [oM 83 1,oN (.iaddr 84 1 (some 3) 7 (.c (I 0))),oL 85 84,oN (.bin 86 .geq 83 85),oM 8 86] [8] 0 .ret))))
def q4x:IFunc:={np:=4,res:=[.t 8],own:=false,trunc:=true,body:=q8n }
def q8o:ICode:=(sR [oN (.mv 4 (.c (.bool false)))] [0,1] 0 (sR [oM 5 0,oN (.bin 6 .geq 5 (.c (I 0))),oM 7 6,gT (.mv 8 0) 7,gT (.mv 9 1) 7,gT (.bin 10 .shl (.c (I 1)) 9) 7,gT (.bin 11 .lss 8 10) 7,oN (.pick 12 7 11 (.c (.bool false))),oM 4 12] [4] 0 .ret))
def q1p:IFunc:={np:=2,res:=[.t 4],own:=false,trunc:=true,body:=q8o }
def q8p:ICode:=(sR [oB 13 6,oK 14 0] [0,1,2,3,4,5,13] 1 (sQ [oM 15 0,oM 16 1,oM 17 2,oM 18 3,oM 19 4,oM 20 5,oN (.load 21 true 3 13),oY 22 96 [15,16,17,18,19,20,21],oM 23 1,oN (.bin 24 .shl (.c (I 1)) 23),oS 25 24 1,oN (.bin 26 .and 22 25),oM 14 26] [14] 0 .ret))
def q4y:IFunc:={np:=7,res:=[.t 14],own:=false,trunc:=true,body:=q8p }
def q8q:ICode:=(sR [oB 13 6,oK 14 0] [0,2,3,4,5,13] 1 (.seq (sR [oM 15 0] [2,3,4,5,13,15] 1 (.block 0 (sR [oE 17 15 4,oM 16 17] [2,3,4,5,13,15,16] 1 (.cond 16 (sR [oM 18 2,oN (.un 19 .xor 18),oM 14 19] [14] 0 .ret) (sR [oE 21 15 5,oM 20 21] [2,3,4,5,13,15,20] 1 (.cond 20 (sR [oM 22 2,oN (.un 23 .neg 22),oM 14 23] [14] 0 .ret) (sR [oE 25 15 6,oM 24 25] [2,3,4,5,13,15,24] 1 (.cond 24 (sR [oM 26 2,oM 27 3,oN (.bin 28 .and 26 27),oM 14 28] [14] 0 .ret) (sR [oE 30 15 7,oM 29 30] [2,3,4,5,13,15,29] 1 (.cond 29 (sR [oM 31 2,oM 32 3,oN (.bin 33 .or 31 32),oM 14 33] [14] 0 .ret) (sR [oE 35 15 8,oM 34 35] [2,3,4,5,13,15,34] 1 (.cond 34 (sR [oM 36 2,oM 37 3,oN (.bin 38 .xor 36 37),oM 14 38] [14] 0 .ret) (sR [oE 40 15 9,oM 39 40] [2,3,4,5,13,15,39] 1 (.cond 39 (sR [oM 41 2,oM 42 3,oN (.bin 43 .add 41 42),oM 14 43] [14] 0 .ret) (sR [oE 45 15 10,oM 44 45] [2,3,4,5,13,15,44] 1
 (.cond 44 (sR [oM 46 2,oM 47 3,oN (.bin 48 .sub 46 47),oM 14 48] [14] 0 .ret) (sR [oE 50 15 11,oM 49 50] [2,3,4,5,13,15,49] 1 (.cond 49 (sR [oM 51 2,oM 52 3,oN (.bin 53 .mul 51 52),oM 14 53] [14] 0 .ret) (sR [oE 55 15 14,oM 54 55] [2,3,4,5,13,15,54] 1 (.cond 54 (sR [oM 56 2,oM 57 3,oN (.bin 58 .shl 56 57),oM 14 58] [14] 0 .ret) (sR [oE 60 15 15,oM 59 60] [2,3,4,5,13,15,59] 1 (.cond 59 (sR [oM 61 2,oM 62 3,oN (.bin 63 .shr 61 62),oM 14 63] [14] 0 .ret) (sR [oE 65 15 16,oM 64 65] [2,3,4,5,13,15,64] 1 (.cond 64 (sR [oM 66 2,oM 67 3,oN (.bin 68 .eql 66 67),oY 69 114 [68],oM 14 69] [14] 0 .ret) (sR [oE 71 15 17,oM 70 71] [2,3,4,5,13,15,70] 1 (.cond 70 (sR [oM 72 2,oM 73 3,oW 74 72 73,oY 75 114 [74],oM 14 75] [14] 0 .ret) (sR [oE 77 15 18,oM 76 77] [2,3,4,5,13,15,76] 1
 (.cond 76 (sQ [oM 78 2,oN (.iaddr 79 1 (some 3) 13 (.c (I 0))),oL 80 79,oY 81 115 [78,80],oM 82 3,oN (.iaddr 83 1 (some 3) 13 (.c (I 1))),oL 84 83,oY 85 115 [82,84],oW 86 81 85,oY 87 114 [86],oM 14 87] [14] 0 .ret) (sR [oE 89 15 20,oM 88 89] [2,3,4,5,13,15,88] 1 (.cond 88 (sR [oM 90 2,oN (.iaddr 91 1 (some 3) 13 (.c (I 1))),oL 92 91,oN (.bin 93 .shl 90 92),oM 94 3,oN (.bin 95 .or 93 94),oM 14 95] [14] 0 .ret) (sR [oE 97 15 21,oM 96 97] [2,3,4,5,13,15,96] 1 (.cond 96 (sR [oM 98 2,oM 99 5,oN (.bin 100 .shr 98 99),oM 14 100] [14] 0 .ret) (sR [oE 102 15 23,oM 101 102] [2,3,4,13,15,101] 1 (.cond 101 (sR [oM 103 2,oN (.iaddr 104 1 (some 3) 13 (.c (I 0))),oL 105 104,oY 106 115 [103,105],oM 14 106] [14] 0 .ret) (sR [oE 108 15 19,oM 107 108] [2,3,4,15,107] 0 (.cond 107 (.seq (sR [oM 109 2,oE 110 109 1] [3,4,110] 0 (.cond 110 (sR [oM 111 3,oM 14 111] [14] 0 .ret) .skip))
 (sR [oM 112 4,oM 14 112] [14] 0 .ret)) (sR [oE 114 15 12,oM 113 114] [2,3,15,113] 0 (.cond 113 (.seq (sR [oM 115 3,oE 116 115 0] [2,3,116] 0 (.cond 116 (sR [oN (.mv 14 (.c (I (-1))))] [14] 0 .ret) .skip)) (sR [oM 117 2,oM 118 3,oN (.bin 119 .quo 117 118),oM 14 119] [14] 0 .ret)) (sR [oE 121 15 13,oM 120 121] [2,3,120] 0 (.cond 120 (.seq (sR [oM 122 3,oE 123 122 0] [2,3,123] 0 (.cond 123 (sR [oM 124 2,oM 14 124] [14] 0 .ret) .skip)) (sR [oM 125 2,oM 126 3,oN (.bin 127 .rem 125 126),oM 14 127] [14] 0 .ret)) .skip)))))))))))))))))))))))))))))))))))))))) (sR [oM 128 2,oM 14 128] [14] 0 .ret)))
def q4z:IFunc:={np:=7,res:=[.t 14],own:=false,trunc:=true,body:=q8q }
def q8r:ICode:=(sR [oK 2 0] [0] 0 (.seq (sR [oM 3 0] [3] 0 (.cond 3 (sR [oK 2 1] [2] 0 .ret) .skip)) (sR [oK 2 0] [2] 0 .ret)))
def q1q:IFunc:={np:=1,res:=[.t 2],own:=false,trunc:=true,body:=q8r }
def q8s:ICode:=(sR [oK 4 0] [0,1] 0 (.seq (sR [oM 5 0,oM 6 1,oS 7 6 1,oN (.bin 8 .shl (.c (I 1)) 7),oN (.bin 9 .geq 5 8)] [0,1,9] 0 (.cond 9 (sR [oM 10 0,oM 11 1,oN (.bin 12 .shl (.c (I 1)) 11),oN (.bin 13 .sub 10 12),oM 4 13] [4] 0 .ret) .skip)) (sR [oM 14 0,oM 4 14] [4] 0 .ret)))
def q1r:IFunc:={np:=2,res:=[.t 4],own:=false,trunc:=true,body:=q8s }
mutual
def js:PV->PV->Bool
 | .und,.und| .nilp,.nilp| .nilm,.nilm| .nilf,.nilf| .nils,.nils| .nilI,.nilI| .someI,.someI=>true
 | .int k n,.int k' n'=>decide (k=k')&&decide (n=n')
 | .bool b,.bool b'=>b==b'
 | .str s,.str s'=>s.data.toList==s'.data.toList
 | .agg l,.agg m=>fl l m
 | .tup l,.tup m=>fl l m
 | .sl o z l,.sl o' z' m=>o==o'&&(z==z'&&fl l m)
 | .bs g b o n z,.bs g' b' o' n' z'=>g==g'&&(b==b'&&(o==o'&&(n==n'&&z==z')))
 | .ptr g b o,.ptr g' b' o'=>g==g'&&(b==b'&&o==o')
 | .ep e o,.ep e' o'=>js e e'&&o==o'
 | .mp b,.mp b'=>b==b'
 | .stk b g n,.stk b' g' n'=>b==b'&&(g==g'&&n==n')
 | .pstk b g n,.pstk b' g' n'=>b==b'&&(g==g'&&n==n')
 | .fn f l,.fn f' m=>f==f'&&fl l m
 | .bfn f l,.bfn f' m=>f==f'&&fl l m
 | .sub b g o n,.sub b' g' o' n'=>b==b'&&(g==g'&&(o==o'&&n==n'))
 |_,_=>false
def fl:List PV->List PV->Bool
 |[],[]=>true
 |a::l,b::m=>js a b&&fl l m
 |_,_=>false
end
mutual
theorem lN:∀{a b:PV},js a b=true->a=b
 | a,b,h=>by
  cases a<;>cases b<;>simp[js] at h<;>first|rfl|skip
  case int.int=>obtain⟨rfl,rfl⟩:=h;rfl
  case bool.bool=>subst h;rfl
  case str.str s s'=>
   obtain⟨⟨l⟩⟩:=s;obtain⟨⟨l'⟩⟩:=s';simp at h;subst h;rfl
  case agg.agg=>rw[hZ h]
  case tup.tup=>rw[hZ h]
  case sl.sl=>obtain⟨rfl,rfl,h⟩:=h;rw[hZ h]
  case bs.bs=>obtain⟨rfl,rfl,rfl,rfl,rfl⟩:=h;rfl
  case ptr.ptr=>obtain⟨rfl,rfl,rfl⟩:=h;rfl
  case ep.ep=>obtain⟨h,rfl⟩:=h;rw[lN h]
  case mp.mp=>subst h;rfl
  case stk.stk=>obtain⟨rfl,rfl,rfl⟩:=h;rfl
  case pstk.pstk=>obtain⟨rfl,rfl,rfl⟩:=h;rfl
  case fn.fn=>obtain⟨rfl,h⟩:=h;rw[hZ h]
  case bfn.bfn=>obtain⟨rfl,h⟩:=h;rw[hZ h]
  case sub.sub=>obtain⟨rfl,rfl,rfl,rfl⟩:=h;rfl
theorem hZ:∀{l m:List PV},fl l m=true->l=m
 |[],[],_=>rfl
 |a::l,b::m,h=>by simp[fl] at h;rw[lN h.1,hZ h.2]
 |[],_::_,h=>by simp[fl] at h
 |_::_,[],h=>by simp[fl] at h
end
def jt:List (PV×PV)->List (PV×PV)->Bool
 |[],[]=>true
 |(a,b)::l,(c,d)::m=>js a c&&(js b d&&jt l m)
 |_,_=>false
theorem tH:∀{l m:List (PV×PV)},jt l m=true->l=m
 |[],[],_=>rfl
 |(a,b)::l,(c,d)::m,h=>by simp[jt] at h;rw[lN h.1,lN h.2.1,tH h.2.2]
 |[],_::_,h=>by simp[jt] at h
 |_::_,[],h=>by simp[jt] at h
def oa:GObj->GObj->Bool
 | .cells l,.cells m=>fl l m
 | .map l,.map m=>jt l m
 | .stk g l,.stk g' m=>g==g'&&fl l m
 | .bld s,.bld s'=>s.data.toList==s'.data.toList
 |_,_=>false
theorem Ba {a b:GObj} (h:oa a b=true):a=b:=by
 cases a<;>cases b<;>simp[oa] at h
 ·rw[hZ h]
 ·rw[tH h]
 ·obtain⟨rfl,h⟩:=h;rw[hZ h]
 ·rename_i s s'
  obtain⟨⟨l⟩⟩:=s;obtain⟨⟨l'⟩⟩:=s';simp at h;subst h;rfl
def gg:List GObj->List GObj->Bool
 |[],[]=>true
 |a::l,b::m=>oa a b&&gg l m
 |_,_=>false
theorem od:∀{l m:List GObj},gg l m=true->l=m
 |[],[],_=>rfl
 |a::l,b::m,h=>by simp[gg] at h;rw[Ba h.1,od h.2]
 |[],_::_,h=>by simp[gg] at h
 |_::_,[],h=>by simp[gg] at h
def j7 (p:PV->Bool):List PV->Bool
 |[]=>true
 |a::l=>p a&&j7 p l
theorem tJ {p:PV->Bool}:∀{l:List PV},j7 p l=true->l.all p=true
 |[],_=>rfl
 |a::l,h=>by simp only[j7,aX] at h;simp only[List.all_cons,aX];exact⟨h.1,tJ h.2⟩
def gi {α:Type}:Bool->Option α->Option α
 |true,x=>x
 |false,_=>none
def j8 (cf:CallF) (s:St) (d:Option Nat) (q:Bool) (f:Nat) (vs:List PV):Option St:=
 gi (j7 ah vs) (match cf f vs s.gh with
  |some (r,gh')=>(match q with
   |true=>gi (gg gh' s.gh) (some ⟨eo s.env d r,s.lh,s.gh⟩)
   |false=>some ⟨eo s.env d r,s.lh,gh'⟩)
  |none=>none)
theorem oe {cf cf':CallF} (hc:Le cf cf') {s s':St} {d:Option Nat} {q:Bool} {f:Nat} {vs:List PV} (h:j8 cf s d q f vs=some s'):dF cf' s d q f vs=some s':=by
 unfold j8 at h;cases ha:j7 ah vs with
 |false=>rw[ha] at h;cases h
 | true=>
  rw[ha] at h;simp only[gi] at h;unfold dF;rw[if_pos (tJ ha)];cases hr:cf f vs s.gh with
  |none=>rw[hr] at h;cases h
  | some x=>
   obtain⟨r,gh'⟩:=x;rw[hr] at h;rw[hc _ _ _ _ hr];simp only at h ⊢;cases q with
   |false=>simpa using h
   | true=>
    simp only at h;cases hg:gg gh' s.gh with
    |false=>rw[hg] at h;cases h
    |true=>
     rw[hg] at h;simp only[if_true];rw[if_pos (od hg)];exact h
noncomputable def ia (cf:CallF) (s:St) (o:IOp):Option St:=
 match o with
 | .call d q f xs=>match cv s.env xs with
  |some vs=>j8 cf s d q f vs
  |none=>none
 | .callv d q fv xs=>match ai s.env fv with
  |some (.fn f caps)=>(match cv s.env xs with
   |some vs=>j8 cf s d q f (vs++caps)
   |none=>none)
  |some (.bfn f fs)=>(match cv s.env xs with
   |some vs=>j8 cf s d q f (fs++vs)
   |none=>none)
  |_=>none
 |o=>ae cf s o
theorem tK {cf cf':CallF} (hc:Le cf cf') {s s':St} {o:IOp} (h:ia cf s o=some s'):ae cf' s o=some s':=by
 cases o with
 |callP=>simp[ia,ae] at h
 |callR=>simp[ia,ae] at h
 |appendP=>simp[ia,ae] at h
 | call d q f xs=>
  simp only[ia] at h;split at h
  ·rename_i vs hv
   simp only[ae,hv,cC];exact oe hc h
  ·cases h
 | callv d q fv xs=>
  simp only[ia] at h;split at h
  ·rename_i f caps hf
   split at h
   ·rename_i vs hv
    simp only[ae,hf,hv,cC];exact oe hc h
   ·cases h
  ·rename_i f fs hf
   split at h
   ·rename_i vs hv
    simp only[ae,hf,hv,cC];exact oe hc h
   ·cases h
  ·cases h
 |_=>exact kg hc h
noncomputable def iJ (cf:CallF):List IOpG->St->Option St
 |[],s=>some s
 | o ::l,s=>match o.guard with
  |none=>(match ia cf s o.op with
   |some s1=>iJ cf l s1
   |none=>none)
  | some (g,want)=>match get s.env g with
   | some (.bool b)=>(match b==want with
    |true=>(match ia cf s o.op with
     |some s1=>iJ cf l s1
     |none=>none)
    |false=>iJ cf l (dr s o.op))
   |some .und=>iJ cf l (dr s o.op)
   |_=>none
theorem j9 {cf cf':CallF} (hc:Le cf cf'):∀{l:List IOpG} {s s':St},iJ cf l s=some s'->cw cf' l s=some s'
 |[],s,s',h=>h
 | o ::l,s,s',h=>by
  simp only[iJ] at h;simp only[cw];split at h
  ·rename_i hg
   simp only[hg];split at h
   ·rename_i s1 h1
    rw[tK hc h1];exact j9 hc h
   ·cases h
  ·rename_i g want hg
   simp only[hg];split at h
   ·rename_i b hb
    simp only[hb];split at h
    ·rename_i hw
     rw[if_pos (by simpa using hw)];split at h
     ·rename_i s1 h1
      rw[tK hc h1];exact j9 hc h
     ·cases h
    ·rename_i hw
     rw[if_neg (by simpa using hw)];exact j9 hc h
   ·rename_i hb
    simp only[hb];exact j9 hc h
   ·cases h
noncomputable def tL (fn:IFunc) (gh:List GObj):ag×St->Option (PV×List GObj)
 |(.exit _,_)=>none
 | (_,s)=>match results fn.own fn.res s with
  |some r=>gi (al r) (match fn.trunc with
   |true=>gi (gg (s.gh.take gh.length) gh) (gi (cj gh.length s.gh r).noG (some (cj gh.length s.gh r,gh)))
   |false=>some (r,s.gh))
  |none=>none
open Classical in
theorem Bb {fn:IFunc} {gh:List GObj} {x:ag×St} {r:PV×List GObj} (h:tL fn gh x=some r):au fn gh x=some r:=by
 obtain⟨e,s⟩:=x
 have main:(match results fn.own fn.res s with
  |some r=>gi (al r) (match fn.trunc with
   |true=>gi (gg (s.gh.take gh.length) gh) (gi (cj gh.length s.gh r).noG (some (cj gh.length s.gh r,gh)))
   |false=>some (r,s.gh))
  |none=>none)=some r->((results fn.own fn.res s).bind λr=>if al r then
   (if fn.trunc then if s.gh.take gh.length=gh/\(cj gh.length s.gh r).noG then some (cj gh.length s.gh r,gh) else none else some (r,s.gh)) else none)=some r:=by
  intro h;cases hr:results fn.own fn.res s with
  |none=>rw[hr] at h;cases h
  | some v=>
   rw[hr] at h;simp only[cC] at h ⊢;cases ho:al v with
   |false=>rw[ho] at h;cases h
   | true=>
    rw[ho] at h;simp only[gi,if_true] at h ⊢;cases ht:fn.trunc with
    |false=>rw[ht] at h;simpa using h
    | true=>
     rw[ht] at h;simp only[if_true] at h ⊢;cases hg:gg (s.gh.take gh.length) gh with
     |false=>rw[hg] at h;cases h
     | true=>
      rw[hg] at h;simp only at h;cases hn:(cj gh.length s.gh v).noG with
      |false=>rw[hn] at h;cases h
      |true=>
       rw[hn] at h;rw[if_pos ⟨od hg,rfl⟩];exact h
 cases e with
 |exit i=>cases h
 |normal=>exact main h
 |ret=>exact main h
noncomputable def kb (run:ICode->St->Option (ag×St)) (pg:Prg):CallF:=λf vs gh=>
 match pg f with
 | some (.code fn)=>(match vs.length==fn.np with
  |true=>(match run fn.body ⟨fu 0 vs,[],gh⟩ with
   |some x=>tL fn gh x
   |none=>none)
  |false=>none)
 |some (.lib F)=>F vs gh
 |_=>none
noncomputable def da (pg:Prg):Nat->ICode->St->Option (ag×St)
 |0,_,_=>none
 | n+1,c,s=>match c with
  | .skip=>some (.normal,s)
  | .region ops _=>match iJ (kb (da pg n) pg) ops s with
   |some s'=>some (.normal,s')
   |none=>none
  | .seq a b=>match da pg n a s with
   |some (.normal,s')=>da pg n b s'
   |r=>r
  | .cond x a b=>match ai s.env x with
   |some (.bool true)=>da pg n a s
   |some (.bool false)=>da pg n b s
   |_=>none
  | .block id a=>match da pg n a s with
   |some (.exit i,s')=>match i==id with
    |true=>some (.normal,s')
    |false=>some (.exit i,s')
   |r=>r
  | .loop a=>match da pg n a s with
   |some (.normal,s')=>da pg n (.loop a) s'
   |r=>r
  | .exit i=>some (.exit i,s)
  | .ret=>some (.ret,s)
  | .post a ks nl=>match da pg n a s with
   |some (.normal,s')=>some (.normal,⟨keep nl ks s'.env,s'.lh.take nl,s'.gh⟩)
   |r=>r
  | .cut a=>da pg n a s
  |_=>none
theorem tM {run run':ICode->St->Option (ag×St)} {pg:Prg} (h:∀c s r,run c s=some r->run' c s=some r):Le (kb run pg) (cV run' pg):=by
 intro f vs gh r hh;unfold kb at hh;unfold cV;cases hp:pg f with
 |none=>simp[hp] at hh
 | some df=>
  cases df with
  |lib F=>simp only[hp] at *;exact hh
  |yl Y=>simp[hp] at hh
  | code fn=>
   simp only[hp] at *;split at hh
   ·rename_i hl
    rw[if_pos (by simpa using hl)];split at hh
    ·rename_i x hx
     rw[h _ _ _ hx];exact Bb hh
    ·cases hh
   ·cases hh
theorem Bc (pg:Prg):∀(n:Nat) (c:ICode) (s:St) (r:ag×St),da pg n c s=some r->ak pg n c s=some r:=by
 intro n
 induction n with
 |zero=>intro c s r h;simp[da] at h
 | succ n ih=>
  intro c s r h;cases c with
  |lift=>simp[da] at h
  |rangeF=>simp[da] at h
  |skip=>simpa [da,ak] using h
  | region ops d=>
   simp only[da] at h;simp only[ak];split at h
   ·rename_i s' h1
    rw[j9 (tM ih) h1];exact h
   ·cases h
  | seq a b=>
   rw[da] at h;rw[ak];cases ha:da pg n a s with
   |none=>simp[ha] at h
   |some x=>
    rw[ih _ _ _ ha];rw[ha] at h;obtain⟨e,s'⟩:=x;cases e<;>simp only at * <;>first|exact ih _ _ _ h|exact h
  |cond x a b=>
   rw[da] at h;rw[ak];split at h
   ·rename_i hx;simp only[hx];exact ih _ _ _ h
   ·rename_i hx;simp only[hx];exact ih _ _ _ h
   ·cases h
  | block id a=>
   rw[da] at h;rw[ak];cases ha:da pg n a s with
   |none=>simp[ha] at h
   | some x=>
    rw[ih _ _ _ ha];rw[ha] at h;obtain⟨e,s'⟩:=x;cases e with
    | exit i=>
     simp only at h ⊢;split at h
     ·rename_i hi
      rw[if_pos (by simpa using hi)];exact h
     ·rename_i hi
      rw[if_neg (by simpa using hi)];exact h
    |_=>exact h
  | loop a=>
   rw[da] at h;rw[ak];cases ha:da pg n a s with
   |none=>simp[ha] at h
   |some x=>
    rw[ih _ _ _ ha];rw[ha] at h;obtain⟨e,s'⟩:=x;cases e<;>simp only at * <;>first|exact ih _ _ _ h|exact h
  |exit i=>simpa [da,ak] using h
  |ret=>simpa [da,ak] using h
  |post a ks nl=>
   rw[da] at h;rw[ak];cases ha:da pg n a s with
   |none=>simp[ha] at h
   |some x=>rw[ih _ _ _ ha];rw[ha] at h;exact h
  |cut a=>rw[da] at h;rw[ak];exact ih _ _ _ h
  |bad=>simp[da] at h
def Bd:Option (PV×List GObj)->Bool
 |some (.bool true,[])=>true
 |_=>false
theorem Be {pg:Prg} {n f:Nat} (h:Bd (kb (da pg n) pg f [] [])=true):af pg f [] []=some (.bool true,[]):=by
 cases hx:kb (da pg n) pg f [] [] with
 |none=>rw[hx] at h;cases h
 |some r=>
  have:=lS pg n f [] [] r (tM (Bc pg n) _ _ _ _ hx);rw[this];rw[hx] at h;obtain⟨v,g⟩:=r;cases v<;>try cases h
  rename_i b;cases b<;>cases g<;>first|rfl|cases h
end Go.Lw