/-
  The texts that the proof stands on, part 8.
-/
import Derived.Test.YtmodipglnngghadGreatDoorRestModelsB
import Derived.Lib.AtoiAll
set_option linter.unusedVariables false
set_option linter.unusedSimpArgs false
set_option linter.unnecessarySimpa false

set_option maxRecDepth 100000
set_option maxHeartbeats 4000000
namespace Go.Lw
open Go
abbrev bA (l:List UInt8):ByteArray:=⟨l.toArray⟩
theorem gS (l:List UInt8):(bA l).size=l.length:=by simp[ByteArray.size]
def ez:Nat->Nat->List UInt8
 |0,_=>[]
 |k+1,u=>if u<10 then [UInt8.ofNat (48+u)] else ez k (u/10)++[UInt8.ofNat (48+u%10)]
def kp (n:Int):List UInt8:=if n<0 then 45::ez 20 n.natAbs else ez 20 n.toNat
def fp (c:UInt8):List UInt8->List UInt8×List UInt8×Bool
 |[]=>([],[],false)
 |b::r=>if b=c then ([],r,true) else (b::(fp c r).1,(fp c r).2.1,(fp c r).2.2)
def cu (c:UInt8):List UInt8->List (List UInt8)
 |[]=>[[]]
 |b::r=>if b=c then []::cu c r else match cu c r with
  |[]=>[[b]]
  |x::l=>(b::x)::l
def libItoa:fw->fB->Option (PV×fB)
 |[.int .i64 n],gh=>if -9223372036854775808<=n/\n<=9223372036854775807 then some (.str (bA (kp n)),gh) else none
 |_,_=>none
def libAtoi:fw->fB->Option (PV×fB)
 |[.str s],gh=>if s.size<=281474976710656 then match Lib.atoiAll s.data.toList with
  | .ok v=>some (.tup [.int .i64 v,.nilI],gh)
  | .range=>some (.tup [.int .i64 (Lib.atoiSat s.data.toList),.someI],gh)
  |_=>some (.tup [.int .i64 0,.someI],gh)
  else none
 |_,_=>none
def libCut:fw->fB->Option (PV×fB)
 |[.str s,.str a],gh=>match a.data.toList with
  |[c]=>if s.size<4294967281 then some (.tup [.str (bA (fp c s.data.toList).1),.str (bA (fp c s.data.toList).2.1),.bool (fp c s.data.toList).2.2],gh) else none
  |_=>none
 |_,_=>none
def libSplit:fw->fB->Option (PV×fB)
 |[.str s,.str a],gh=>match a.data.toList with
  |[c]=>if s.size<4294967281 then some (.sl false 1 ((cu c s.data.toList).map λx=> .str (bA x)),gh) else none
  |_=>none
 |_,_=>none
def libWS:fw->fB->Option (PV×fB)
 |[.ptr true b 0,.str s],gh=>match gh[b]? with
  |some (.bld t)=>if s.size≠0/\t.size+s.size<=140737488355328 then some (.tup [.int .i64 s.size,.nilI],gh.set b (.bld (t++s))) else none
  |_=>none
 |_,_=>none
def libWB:fw->fB->Option (PV×fB)
 |[.ptr true b 0,.int .u8 c],gh=>match gh[b]? with
  |some (.bld t)=>if 0<=c/\c<256/\t.size+1<=140737488355328 then some (.nilI,gh.set b (.bld (t++bA [UInt8.ofNat c.toNat]))) else none
  |_=>none
 |_,_=>none
def libBS:fw->fB->Option (PV×fB)
 |[.ptr true b 0],gh=>match gh[b]? with
  |some (.bld t)=>some (.str t,gh.set b (.cells [if t.size=0 then .nilp else .ptr true b 0,.sl false 1 (t.data.toList.map λc=> .int .u8 c.toNat)]))
  |_=>none
 |_,_=>none
def wordsL:List (List UInt8):=[[],[99,111,110,115,116],[105,110,112,117,116],[115,116,97,116,101],[110,111,116],[110,101,103],[97,110,100],[111,114],[120,111,114],[97,100,100],[115,117,98],[109,117,108],[100,105,118],[114,101,109],[115,104,108],[115,104,114],[101,113],[108,101,115,115],[115,105,103,110,101,100],[105,102],[106,111,105,110],[99,117,116],[119,105,100,101],[115,112,114,101,97,100]]
def textWords:List ByteArray:=wordsL.map bA
def qih:ICode:=(pQ [oM 46 5,oM 47 6,oY 48 260 [(.t 47)],oN (.bin 49 .add (.t 48) (.c (.str ⟨#[32]⟩))),oN (.loadG 50 textWords),oF 51 7 0,oL 52 51,oA 53 50 52,oL 54 53,oN (.bin 55 .add (.t 49) (.t 54)),oM 56 8,oX 57 356 [(.t 46),(.t 55),(.t 56)]] [1,5,25,26,27] 1)
def qii:ICode:=pk 0x1462ac4dad90c5bdf862a39eb95edf
def qij:ICode:=pk2 0x19cabad8f667c8e4f1407f552c622ef5a02389d9c78eb7902cd9a540b525f8c76f348068076d1d5bdcdfabad15632ae8ab09be2391ce3489bf7fca91488e121c8ecdb0cc29f20499bcb63f0f10797c6066e66fdcf82a782c12418dfcfae1430fad239ec49b446db85f1252addc3f7b29 qih qii
def qik:ICode:=pk1 0x14593db63c qij
def qil:ICode:=pt 0x36380186418d3fe12a16a645ad17216981c34fb99bef0cb1d58efea025693ad43c6f908fc89de9d21f869650b1884d4ef0959da77d0e8c8f8c305a253666e4f2bb801f0979ddda9
def qim:ICode:=pk1 0x14593db912 qil
def qin:ICode:=pt 0x36380187a3dc5a4ed29b6e7af935db0bfa5602369cb280a62b4bc76726bd13c4d9be646c2a152d65d4a790c0dd72b57fc03d69304df01df718373bad0ec2681927774dc19d89a29
def qio:ICode:=pk1 0x14593dbbe8 qin
def qip:ICode:=pt 0xbfdc0e8e6125000ade2c2cbabd6b7e2eee7d721bea1da1ec221d188f24cc066e0e3a10a8bb5c44ff2d2d5a8fc37cc4111b458ce9f541356a9
def qiq:ICode:=pk1 0x14593dbebe qip
def qir:ICode:=pt 0x51c6190c2749b2347360a210740f8e2df06c53a63e8080fa68930a5526f1f465103ef2bdbc916e7e1a129078180d3fe363cc43fa867f20a9
def qis:ICode:=pk1 0x286672085 qir
def qit:ICode:=pk 0xe331bb61ae9132da15e05218746e5718c809bf7f
def qiu:ICode:=pk2 0x32a648c17d443322a3845f2ef9a2c51060db qis qit
def qiv:ICode:=pk2 0x48cf0b270c7bb7a01f46f25af3a7cdd6db2db qiq qiu
def qiw:ICode:=pk2 0x48cf0b270c7bb7a01f46f25af37c6e6b6995b qio qiv
def qix:ICode:=pk2 0x48cf0b270c7bb7a01f46f25af3510efff7fdb qim qiw
def qiy:ICode:=(sR [oN (.box 1 false false (.t 0)),oN (.mv 2 (.c (.str ByteArray.empty))),oK 3 0] [1] 1 (.seq (sR [oN (.load 17 true 5 (.t 1)),oY 18 38 [(.t 17)],oM 4 18] [1,4] 1 (sR [oM 19 4,oN (.bin 20 .neq (.t 19) (.c (I 0)))] [1,4,20] 1 (.cond (.t 20) (sR [oM 21 4,oN (.mv 2 (.c (.str ByteArray.empty))),oM 3 21] [2,3] 0 .ret) .skip))) (sR [oN (.build 22 [.nilp,.nils] []),oN (.boxB 23 (.t 22)),oM 5 23] [1,5] 1 (.seq (sR [oF 24 1 0,oL 25 24,oN (.len 26 0 (.t 25)),oK 27 0] [1,5,25,26,27] 1 (.cut qik)) (.cut qix)))))
def qiz:IFunc:=⟨1,[.t 2,.t 3],false,true,qiy⟩
def q4k:ICode:=pt 0x1cfa24e322480403243e39c024dbaec7d00590a3d21ebb9541a36a62c1e0fab6d324242d0247be01e114810d0fbce8c39631884d0b18899f2f10d7936267bb6f8fd70a235fe8aab3aff831f30081e97e19c4f7b1730bc76acc5e2dc4811d671f532de4cd22f0eccc4b46c933ebef36572267eaeefc1c6946b89d
def qg8:ICode:=pk1 0x145bec023c q4k
def q4l:ICode:=(.seq (sR [oM 38 5,oC 39 38,oF 40 39 0,oN (.load 41 true 5 (.t 40)),oY 42 38 [(.t 41)],oM 10 42] [2,5,10] 1 (sR [oM 43 10,oN (.bin 44 .neq (.t 43) (.c (I 0)))] [2,5,10,44] 1 (.cond (.t 44) (sR [oN (.build 45 [.sl true 6 [],.sl true 2 [],.sl true 2 [],.sl true 1 [],.sl true 1 []] []),oM 46 10,oN (.store true 5 (.t 2) (.t 45)),oK 3 0,oM 4 46] [2,3,4] 1 .ret) .skip))) (sR [oM 47 5,oC 48 47,oF 49 48 0,oN (.loadM 50 true 5 (.t 49)),oN (.store true 5 (.t 2) (.t 50)),oK 3 0,oK 4 0] [2,3,4] 1 .ret))
def q4m:ICode:=pk2 0xf0bf663f8af576b60480f08fab2195c6af43b50eb0199e6d036a66c00ca2cdd38e61a74e5cb5b32cba99433ee830abb76364b16437235ee33227bab5202037e61f8a367db4c49de68f0a7aa5ff04eddd3dfc33b9 qg8 q4l
def qx:IFunc:=⟨1,[.cell 2 true 5,.t 3,.t 4],true,true,q4m⟩
def qc4:ICode:=pk 0x29f2f9ef9c761f60d239c30b7b0bcabda2c1762d347c0cef4b83b71705
def q2v:IFunc:=⟨1,[.t 2],false,true,qc4⟩
def q7v:ICode:=pk 0x7df4c68ce3
def q1e:ICode:=pk1 0x4d4ed9f62d939cf011bea59e54d90fe9bce597b68809cb80edec3a46ee2f1c9725b2e626ed0c7c69b2cc351459061f632561f98360cee33c7bc1fb9250a9bff34aac9151daea8c16f56fcfa933e115e81351228935f5e23b595df746db59c2d64c35ea826b95729e25a58d4358c58e261d7cbe60e5aaf64f6861b9e1ba0b0190069f2faf549fe32391db532a53998af0b04eeb73e7e8fa7dcd0822db3574c431b371abc7817911be52484aa2ff756bbed3e5000e8e77aa1758a14093267e55e8309e7867d30b4b609a600e0dc8dcaf8d47398fd7a910930a5e60fb1b4b6ca4669c773911e3d4438b01939b89cfd24d867bb8b27220a97656340551d98931dd8dde73d7cc9a192fc74572a99f365fac8e2d88b967549a2d9332eafd93077030602d450ac669e5decbe4ec29be7585aaa6b09f593dff36f150550c7d0bcb5fa6969904bc21aa2e6e4f5d402bd91e72b45cbd7ef643559f5e6446a1bfb q7v
def q4n:ICode:=pt1 0x5ba5fa7b1e33abbbf5e81cc7099ae20ef0b62e7529d5f63dcb7a5677880dc2cea1524ef3be239d1fcf20198ef963165b66d3bb63a2dca2fb959e680eece952d4f0c550a79e4fb40fa0d31688e8793c0f64cd708430277ee86987fe2af28102fed68b52666406df3e00d430c2b4a0e05 q1e
def q3m:IFunc:=⟨2,[.t 4],false,false,q4n⟩
def qj0:ICode:=pt 0xc825d8131f8b608085bbec24c15515cdd93d5365d6ef605344b7b0e7b8b8349e7ce271eb999f4f790db64008bcb13e13ccb4d76cb02d6df5dcbec3b129
def qj1:ICode:=pk1 0x2ffd7c qj0
def qj2:ICode:=pk 0x379f5ff23c5b53b5abb5b82eeb
def qj3:ICode:=pk2 0x1508c511964b64c0fef5f565226bddb3d1cc1d7a03871d648c84a4d78cd qj1 qj2
def qj4:IFunc:=⟨3,[],false,false,qj3⟩
def q4o:ICode:=pk 0x13e315387ab4d8fae671d4973881f88c3834fb7c1c783d030caab0747c3a956f57c04a38322bd46f2a5e022ae01dcd80fb662d8bcf7f25773c71829362ca3924f743ed4778ca9
def q4p:ICode:=pk1 0xb37b08da9307c q4o
def qc5:ICode:=pk 0x5661ebe0766118240b808af4cabcf01b24ed192c31e6f6c02ef18445df8667398c3a964f5f6
def q7w:ICode:=pk1 0x489ecde8cd950caa5ab0110d0bde72918cbcb293b210ccd9efd998b07833575213eb30bf97f8a5f qc5
def q3n:ICode:=pk2 0x1cda09d2d2c8076a2d149565be38d216ecb19cb67182f4a038e56cb515be62a73bceb741277833d28e538880f83f0a62d5c3d477004df6d4975de88265259dab271fc05003aa3e3d755ce9b66ad89446c18474033a7ef519579b0ca09049fae0b1a23e3524f8b09d3da8b2727a51f51658419c190f960bdc6a6c0617a0123e1cddffbfb q4p q7w
def q1m:ICode:=(sR [oN (.mv 4 (.c (.bool false)))] [0,1] 0 (sR [oM 14 1,oN (.iaddr 15 1 none (.t 14) (.c (I 0))),oL 16 15,oY 17 365 [(.t 16)],oM 13 17,oN (.extract 18 (.t 13) 0),oN (.extract 19 (.t 13) 1),oM 5 18,oM 6 19] [0,1,5,6] 0 (.seq (sR [oM 20 6,oN (.un 21 .not (.t 20)),oM 22 21,gN (.mv 23 (.t 5)) 22,gN (.mv 24 (.t 0)) 22,gN (.nilc 25 (.t 24)) 22,gN (.faddr 26 (.t 25) 0) 22,gN (.faddr 27 (.t 26) 0) 22,gN (.load 28 false 1 (.t 27)) 22,gN (.len 29 0 (.t 28)) 22,gN (.bin 30 .neq (.t 23) (.t 29)) 22,oN (.pick 31 (.t 22) (.c (.bool true)) (.t 30)),oM 32 31,gN (.mv 33 (.t 1)) 32,gN (.len 34 0 (.t 33)) 32,gN (.bin 35 .lss (.t 34) (.c (I 2))) 32,oN (.pick 36 (.t 32) (.c (.bool true)) (.t 35)),oM 37 36,gN (.mv 38 (.t 0)) 37,gN (.nilc 39 (.t 38)) 37,gN (.faddr 40 (.t 39) 5) 37,gN (.load 41 false 1 (.t 40)) 37,gN (.bin 42 .gtr (.t 41) (.c (I 0))) 37,
 oN (.pick 43 (.t 37) (.c (.bool true)) (.t 42))] [0,1,43] 0 (.cond (.t 43) (sR [oN (.mv 4 (.c (.bool false)))] [4] 0 .ret) .skip)) (sQ [oN (.loadG 44 textWords),oN (.slice 45 1 (.t 44) (some (.c (I 1))) none),oM 46 1,oN (.iaddr 47 1 none (.t 46) (.c (I 1))),oL 48 47,oY 49 360 [(.t 45),(.t 48)],oN (.bin 50 .add (.t 49) (.c (I 1))),oM 7 50] [0,1,7] 0 (.seq (sR [oM 51 7,oN (.bin 52 .eql (.t 51) (.c (I 0)))] [0,1,7,52] 0 (.cond (.t 52) (sR [oN (.mv 4 (.c (.bool false)))] [4] 0 .ret) .skip)) (sR [oM 53 7,oY 54 63 [(.t 53)],oN (.bin 55 .add (.c (I 1)) (.t 54)),oM 8 55] [0,1,7,8] 0 (.seq (sR [oM 56 7,oY 57 352 [(.t 56)]] [0,1,7,8,57] 0 (.cond (.t 57) (.post (pR [oM 58 8,oN (.bin 59 .add (.t 58) (.c (I 1))),oM 8 59] [0,1,7,8] 0) [0,1,7,8] 0) (.post .skip [0,1,7,8] 0))) (.cut q3n))))))))
def q1f:IFunc:=⟨2,[.t 4],false,false,q1m⟩
def q7x:ICode:=pk 0x27e0cc4d6984f58f6e95ba1f3316b1cfa0e9164b4ec18aed1b0d13988a2ef3ea8ad4b310bc0229844147a8fe06a84bb8132bba4115fbc454234f4a1c0932f3db5528a00fc6f4c76b40e1c9f1b3a138afc8a04e55b9b35ea09b78573f10ac38554cc35deaae9b7327c3cf1a75dcbdd9ba29
def qg9:ICode:=pk1 0x3f865663c q7x
def qc6:ICode:=pk 0x2e06eb36872bed26d90b7d1ff0e19005d0c47558b1
def qc7:ICode:=pk2 0x7cb51186ea77a52ad2416e340c4d34efaf9fd60fbddf0fabc39c32d37 qg9 qc6
def q2w:IFunc:=⟨2,[.t 4,.t 5],false,true,qc7⟩
def q7y:ICode:=pk 0x245945ee326ed0e5972cdfcd29271478b2eca1710f4f35cb5d2b9023ce7d532d5bda5b380220e13f25a0ed4f502fd01f07a1eed3383554ded136327c30f693a957cf661c884e88b19cc80b54007fba6424b5833690e1353637
def q1g:IFunc:=⟨1,[.t 2,.t 3],false,true,q7y⟩
end Go.Lw