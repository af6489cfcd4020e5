/- What the laws' code answers: part 9 of what the rows of this seat lean on. -/
import Derived.Test.YtfcbohachbeamaaGreatDoorProg
import Derived.Test.YtfcbohachbeamaaGreatDoorM2
import Derived.KernelRfl
import Derived.Test.YtfcbohachbeamaaGreatDoorM5
set_option linter.unusedVariables false
set_option linter.unusedSimpArgs false
set_option maxHeartbeats 8000000
set_option maxRecDepth 100000
section
namespace Go.Proofs.YtfcbohachbeamaaGreatDoor.E
open Go.VC
attribute [local simp] Go.VC.zI Go.VC.zU Go.VC.zW Go.VC.zB Go.VC.kI Go.VC.kU Go.VC.kT Go.VC.kF Go.VC.oG Go.VC.oU Go.VC.oM Go.VC.oL Go.VC.oF Go.VC.oV Go.VC.oS Go.VC.oD Go.VC.oJ Go.VC.oB Go.VC.oI Go.VC.oA Go.VC.oP Go.VC.oQ Go.VC.oX Go.VC.oY Go.VC.oZ Go.VC.oC Go.VC.cR Go.VC.cI
def Wk.c:SF:=(⟨_,by dsimp⟩:{c:SF//c=⟨147,[.t 8],
 (cR [oB 4 0,oG 8 (.mv kF)]
 (cI [oL 16 3 4,oC 17 9 [.t 16],oG 18 (.not (.t 17)),oM 19 18,⟨some 20,.mv (.t 1),some (19,false)⟩,⟨some 21,.bin .geq (.t 20) (kI 1099511627776),some (19,false)⟩,oG 22 (.pick (.t 19) kT (.t 21)),oM 23 22,⟨some 24,.mv (.t 1),some (23,false)⟩,⟨some 25,.aI 2 (.t 4),some (23,false)⟩,⟨some 26,.load false 1 (.t 25) (some 4),some (23,false)⟩,⟨some 27,.idx 2 (.t 26) (kI 0),some (23,false)⟩,⟨some 28,.load true 2 (.t 27) none,some (23,false)⟩,⟨some 29,.call 17 [.t 28],some (23,false)⟩,⟨some 30,.bin .leq (.t 24) (.t 29),some (23,false)⟩,oG 31 (.pick (.t 23) kT (.t 30)),oM 32 31,⟨some 33,.mv (.t 2),some (32,false)⟩,⟨some 34,.bin .lss (.t 33) (kI 0),some (32,false)⟩,oG 35 (.pick (.t 32) kT (.t 34)),oM 36 35,⟨some 37,.mv (.t 2),some (36,false)⟩,⟨some 38,.bin .gtr (.t 37) (kI 86399),some (36,false)⟩,oG 39 (.pick (.t 36) kT (.t 38)),oM 40 39,⟨some 41,.mv (.t 3),some (40,false)⟩,⟨some 42,.bin .lss (.t 41) (kI 0),some (40,false)⟩,oG 43 (.pick (.t 40) kT (.t 42)),oM 44 43,⟨some 45,.mv (.t 3),some (44,false)⟩,⟨some 46,.bin .geq (.t 45) (kI 0xde0b6b3a7640000),some (44,false)⟩,oG 47 (.pick (.t 44) kT (.t 46))] 47
 (cR [oC 48 10 [],oM 8 48]
 .ret)
 (cR [oL 49 3 4,oG 50 (.aM 11 [.t 49] [(1000,900),(1001,901),(1003,903)]),oM 9 50]
 (cR [oM 52 1,oM 53 2,oM 54 3,oG 55 (.build [zI,zI,zI] [(0,1,.t 52),(1,1,.t 53),(2,1,.t 54)]),oC 56 19 [.t 55],oC 57 18 [.t 56],oM 51 57,oJ 58 51 0,oJ 59 51 1,oA 10 [zI,zU],oP 2 10 58,oM 11 59]
 (cR [oL 60 2 10,oG 61 (.build [zI,zI,zI,zI,zU,zI,zI,zI,zI,zB,zI,zI,zI,.nil .u8,zI,zU,zI,zU,zI,zI,zI] [(0,1,kI 2),(1,1,kI 6),(2,1,kI 1),(3,2,.t 60),(9,1,kT)]),oA 12 [zI,zI,zI,zI,zU,zI,zI,zI,zI,zB,zI,zI,zI,.nil .u8,zI,zU,zI,zU,zI,zI,zI],oP 21 12 61]
 (cR [oM 62 9,oL 63 21 12,oG 64 (.aM 13 [.t 62,.t 63] [(1000,900),(1001,901),(1003,903)]),oA 13 [zI,zI,zU,zI,zI,zI,.nil .u8,zI],oP 8 13 64]
 (cR [oD 65 8 12,oU (.store 1 (.t 65) (kI 1) 12)]
 (cR [oM 66 9,oL 67 21 12,oG 68 (.aM 13 [.t 66,.t 67] [(1000,900),(1001,901),(1003,903)]),oA 14 [zI,zI,zU,zI,zI,zI,.nil .u8,zI],oP 8 14 68]
 (cR [oD 69 8 12,oU (.store 1 (.t 69) (kI 2) 12)]
 (cR [oM 70 9,oL 71 21 12,oG 72 (.aM 13 [.t 70,.t 71] [(1000,900),(1001,901),(1003,903)]),oA 15 [zI,zI,zU,zI,zI,zI,.nil .u8,zI],oP 8 15 72]
 (cI [oM 73 2,oZ 74 .eql 73 0,oM 75 74,⟨some 76,.load true 3 (.t 4) (some 4),some (75,true)⟩,⟨some 77,.mv (.t 1),some (75,true)⟩,⟨some 78,.bin .sub (.t 77) (kI 1),some (75,true)⟩,⟨some 79,.call 20 [.t 76,.t 78],some (75,true)⟩,⟨some 80,.bin .eql (.t 79) (kI 1),some (75,true)⟩,oG 81 (.pick (.t 75) (.t 80) kF)] 81
 (cR [oC 82 10 [],oM 83 82,⟨some 84,.aI 0 (.t 13),some (83,true)⟩,⟨some 85,.load false 1 (.t 84) (some 13),some (83,true)⟩,⟨some 86,.bin .eql (.t 85) (kI 7),some (83,true)⟩,oG 87 (.pick (.t 83) (.t 86) kF),oM 88 87,⟨some 89,.aI 0 (.t 14),some (88,true)⟩,⟨some 90,.load false 1 (.t 89) (some 14),some (88,true)⟩,⟨some 91,.bin .eql (.t 90) (kI 0),some (88,true)⟩,oG 92 (.pick (.t 88) (.t 91) kF),oM 93 92,⟨some 94,.aI 0 (.t 15),some (93,true)⟩,⟨some 95,.load false 1 (.t 94) (some 15),some (93,true)⟩,⟨some 96,.bin .eql (.t 95) (kI 0),some (93,true)⟩,oG 97 (.pick (.t 93) (.t 96) kF),oM 98 97,⟨some 99,.aI 1 (.t 15),some (98,true)⟩,⟨some 100,.load true 2 (.t 99) (some 15),some (98,true)⟩,⟨some 101,.aI 1 (.t 14),some (98,true)⟩,⟨some 102,.load true 2 (.t 101) (some 14),some (98,true)⟩,⟨some 103,.call 14 [.t 100,.t 102],some (98,true)⟩,⟨some 104,.call 16 [kI 0xde0b6b3a7640000],some (98,true)⟩,⟨some 105,.call 15 [.t 103,.t 104],some (98,true)⟩,oG 106 (.pick (.t 98) (.t 105) kF),oM 8 106]
 .ret)
 (cI [oM 107 2,oZ 108 .eql 107 86399,oM 109 108,⟨some 110,.load true 3 (.t 4) (some 4),some (109,true)⟩,⟨some 111,.mv (.t 1),some (109,true)⟩,⟨some 112,.call 20 [.t 110,.t 111],some (109,true)⟩,⟨some 113,.bin .eql (.t 112) (kI (-1)),some (109,true)⟩,oG 114 (.pick (.t 109) (.t 113) kF)] 114
 (cR [oC 115 10 [],oM 116 115,⟨some 117,.aI 0 (.t 13),some (116,true)⟩,⟨some 118,.load false 1 (.t 117) (some 13),some (116,true)⟩,⟨some 119,.bin .eql (.t 118) (kI 6),some (116,true)⟩,oG 120 (.pick (.t 116) (.t 119) kF),oM 121 120,⟨some 122,.aI 0 (.t 14),some (121,true)⟩,⟨some 123,.load false 1 (.t 122) (some 14),some (121,true)⟩,⟨some 124,.bin .eql (.t 123) (kI 6),some (121,true)⟩,oG 125 (.pick (.t 121) (.t 124) kF),oM 126 125,⟨some 127,.aI 0 (.t 15),some (126,true)⟩,⟨some 128,.load false 1 (.t 127) (some 15),some (126,true)⟩,⟨some 129,.bin .eql (.t 128) (kI 6),some (126,true)⟩,oG 130 (.pick (.t 126) (.t 129) kF),oM 8 130]
 .ret)
 (cR [oC 131 10 [],oM 132 131,⟨some 133,.aI 0 (.t 13),some (132,true)⟩,⟨some 134,.load false 1 (.t 133) (some 13),some (132,true)⟩,⟨some 135,.bin .eql (.t 134) (kI 0),some (132,true)⟩,oG 136 (.pick (.t 132) (.t 135) kF),oM 137 136,⟨some 138,.load true 8 (.t 13) (some 13),some (137,true)⟩,⟨some 139,.load true 8 (.t 14) (some 14),some (137,true)⟩,⟨some 140,.call 21 [.t 138,.t 139],some (137,true)⟩,oG 141 (.pick (.t 137) (.t 140) kF),oM 142 141,⟨some 143,.load true 8 (.t 13) (some 13),some (142,true)⟩,⟨some 144,.load true 8 (.t 15) (some 15),some (142,true)⟩,⟨some 145,.call 21 [.t 143,.t 144],some (142,true)⟩,oG 146 (.pick (.t 142) (.t 145) kF),oM 8 146]
 .ret)))))))))))))⟩}).1
theorem Wk.aA:Ck Tryz.f4 Wk.c:=cK
theorem Wk.ent:EnN 4:=eN Tryz.func4
def Ef.c:SF:=(⟨_,by dsimp⟩:{c:SF//c=⟨11,[.t 2],
 (cR [oB 1 0,oG 2 (.mv kF)]
 (cR [oL 6 3 1,oC 7 28 [.t 6],oM 5 7,oJ 8 5 0,oJ 9 5 1,oM 3 8,oM 4 9]
 (cR [oM 10 4,oM 2 10]
 .ret)))⟩}).1
theorem Ef.aA:Ck Tryz.f9 Ef.c:=cK
theorem Ef.ent:EnN 9:=eN Tryz.func9
def Fx.c:SF:=(⟨_,by dsimp⟩:{c:SF//c=⟨40,[.t 0],
 (cR [oG 0 (.mv kF)]
 (cR [oG 5 (.build [zI,zI] [(0,1,kI 2272060800),(1,1,kI 10)]),oG 6 (.build [zI,zI] [(0,1,kI 2287785600),(1,1,kI 11)]),oG 7 (.sG ⟨51,2,none⟩ [zI,zI,zI,zI] 2 [(0,2,.t 5),(2,2,.t 6)]),oG 8 (.build [zI,zI,.nil .u8] [(1,1,kI 3000000000),(2,1,.t 7)]),oG 9 (.aM 11 [.t 8] [(1000,900),(1001,901),(1003,903)]),oM 1 9]
 (cR [oG 10 (.build [zI,zI,zI] [(0,1,kI 41498),(1,1,kI 86400),(2,1,kI 5)]),oA 2 [zI,zI,zI],oP 3 2 10]
 (cR [oM 11 1,oL 12 3 2,oG 13 (.build [zI,zI,zI,zI,zU,zI,zI,zI,zI,zB,zI,zI,zI,.nil .u8,zI,zU,zI,zU,zI,zI,zI] [(0,1,kI 2),(1,1,kI 5),(2,1,kI 3),(5,3,.t 12)]),oG 14 (.aM 13 [.t 11,.t 13] [(1000,900),(1001,901),(1003,903)]),oA 3 [zI,zI,zU,zI,zI,zI,.nil .u8,zI],oP 8 3 14]
 (cR [oM 15 1,oD 16 1 3,oV 17 2 16 3,oG 18 (.build [zI,zI,zI,zI,zU,zI,zI,zI,zI,zB,zI,zI,zI,.nil .u8,zI,zU,zI,zU,zI,zI,zI] [(0,1,kI 2),(1,1,kI 3),(2,1,kI 5),(3,2,.t 17)]),oG 19 (.aM 13 [.t 15,.t 18] [(1000,900),(1001,901),(1003,903)]),oA 4 [zI,zI,zU,zI,zI,zI,.nil .u8,zI],oP 8 4 19]
 (cR [oD 20 0 3,oS 21 1 20 3,oZ 22 .eql 21 0,oM 23 22,⟨some 24,.aI 1 (.t 3),some (23,true)⟩,⟨some 25,.load true 2 (.t 24) (some 3),some (23,true)⟩,⟨some 26,.build [zI,zU] [],some (23,true)⟩,⟨some 27,.eqs true [.i64,.u64] (.t 25) (.t 26),some (23,true)⟩,oG 28 (.pick (.t 23) (.t 27) kF),oM 29 28,⟨some 30,.aI 0 (.t 4),some (29,true)⟩,⟨some 31,.load false 1 (.t 30) (some 4),some (29,true)⟩,⟨some 32,.bin .eql (.t 31) (kI 0),some (29,true)⟩,oG 33 (.pick (.t 29) (.t 32) kF),oM 34 33,⟨some 35,.aI 3 (.t 4),some (34,true)⟩,⟨some 36,.load true 3 (.t 35) (some 4),some (34,true)⟩,⟨some 37,.load true 3 (.t 2) (some 2),some (34,true)⟩,⟨some 38,.eqs false [.i64,.i64,.i64] (.t 36) (.t 37),some (34,true)⟩,oG 39 (.pick (.t 34) (.t 38) kF),oM 0 39]
 .ret))))))⟩}).1
theorem Fx.aA:Ck Tryz.f10 Fx.c:=cK
theorem Fx.ent:EnN 10:=eN Tryz.func10
def yY.c:SF:=(⟨_,by dsimp⟩:{c:SF//c=⟨12,[.t 2],
 (cR [oB 1 0,oG 2 (.mv (.k (.pointer none)))]
 (cR [oG 4 (.aM 27 [] [(1003,903)]),oM 3 4]
 (cR [oM 5 3,oL 6 3 1,oC 7 29 [.t 6],oG 8 (.rG (.t 7)),oG 9 (.build [zI,zI,zI,zI,zU,zI,zI,zI,zI,zB,zI,zI,zI,.nil .u8,zI,zU,zI,zU,zI,zI,zI] [(0,1,kI 1),(13,1,.t 8)]),oG 10 (.aM 13 [.t 5,.t 9] [(1000,900),(1001,901),(1003,903)])]
 (cR [oM 11 3,oM 2 11]
 .ret))))⟩}).1
theorem yY.aA:Ck Tryz.f11 yY.c:=cK
theorem yY.ent:EnN 11:=eN Tryz.func11
def nN.c:SF:=(⟨_,by dsimp⟩:{c:SF//c=⟨69,[.c 4 true 8],
 (cR [oB 3 1,oA 4 [zI,zI,zU,zI,zI,zI,.nil .u8,zI]]
 (cI [oM 7 0,oG 8 (.gW false (.t 7))] 8
 (cR [oG 9 (.build [zI,zI,zU,zI,zI,zI,.nil .u8,zI] [(0,1,kI 1)]),oP 8 4 9]
 .ret)
 (cR [oM 10 0,oG 11 (.cB (.t 10)),oD 12 7 11,oG 13 (.aM 30 [.t 12,kI 1] [(1000,1000),(1001,1001),(1003,1003)])]
 (cR [oM 14 0,oG 15 (.aM 31 [.t 14] [(1000,1000),(1001,1001),(1003,1003)]),oD 16 8 3,oS 17 1 16 3,oD 18 9 3,oS 19 1 18 3,oG 20 (.build [.v (.pointer none),zI,zB] [(0,1,.t 15),(1,1,.t 17),(2,1,.t 19)]),oD 21 1 3,oS 22 1 21 3,oD 23 3 3,oV 24 2 23 3,oD 25 5 3,oV 26 3 25 3,oG 27 (.build [zI,zI,zU,zI,zI,zI] [(0,1,.t 22),(1,2,.t 24),(3,3,.t 26)]),oA 5 [.v (.pointer none),zI,zB],oA 6 [zI,zI,zU,zI,zI,zI],oP 3 5 20,oP 6 6 27]
 (.seq (cR [oD 28 0 3,oS 29 1 28 3]
 (.block 0
 (cR [oZ 31 .eql 29 1,oM 30 31]
 (.cond (.t 30)
 (cR [oM 32 0,oD 33 13 3,oS 34 1 33 3,oG 35 (.aM 32 [.t 32,.t 34] [(1000,900),(1001,901),(1003,1003)]),oP 8 4 35]
 .ret)
 (cR [oZ 37 .eql 29 2,oM 36 37]
 (.cond (.t 36)
 (cR [oL 38 3 5,oL 39 6 6,oD 40 2 3,oS 41 1 40 3,oG 42 (.aM 33 [.t 38,.t 39,.t 41] [(1000,1000),(1001,1001)]),oP 8 4 42]
 .ret)
 (cR [oZ 44 .eql 29 5,oM 43 44]
 (.cond (.t 43)
 (cR [oL 45 3 5,oL 46 6 6,oD 47 16 3,oV 48 2 47 3,oG 49 (.aM 34 [.t 45,.t 46,.t 48] [(1000,1000),(1001,1001)]),oP 8 4 49]
 .ret)
 (cR [oZ 51 .eql 29 6,oM 50 51]
 (.cond (.t 50)
 (cR [oL 52 3 5,oL 53 6 6,oD 54 18 3,oV 55 3 54 3,oG 56 (.aM 35 [.t 52,.t 53,.t 55] [(1000,1000),(1001,1001)]),oP 8 4 56]
 .ret)
 (cR [oZ 58 .eql 29 3,oM 57 58]
 (.cond (.t 57)
 (cR [oL 59 3 5,oL 60 6 6,oL 61 21 3,oG 62 (.aM 36 [.t 59,.t 60,.t 61] [(1000,1000),(1001,1001)]),oP 8 4 62]
 .ret)
 (cR [oZ 64 .eql 29 4,oM 63 64]
 (.cond (.t 63)
 (cR [oL 65 3 5,oL 66 21 3,oG 67 (.aM 37 [.t 65,.t 66] [(1000,1000),(1001,1001)]),oP 8 4 67]
 .ret)
 .skip))))))))))))))
 (cR [oG 68 (.build [zI,zI,zU,zI,zI,zI,.nil .u8,zI] [(0,1,kI 1)]),oP 8 4 68]
 .ret))))))⟩}).1
theorem nN.aA:Ck Tryz.f13 nN.c:=cK
theorem nN.ent:EnN 13:=eN Tryz.func13
def aRW.c:SF:=(⟨_,by dsimp⟩:{c:SF//c=⟨10,[.c 4 true 2],
 (cR [oB 2 0,oB 3 1,oA 4 [zB,.nil .i64]]
 (cR [oL 5 2 2,oC 6 24 [.t 5],oL 7 2 3,oC 8 24 [.t 7],oC 9 38 [.t 6,.t 8],oP 2 4 9]
 .ret))⟩}).1
theorem aRW.aA:Ck Tryz.f14 aRW.c:=cK
theorem aRW.ent:EnN 14:=eN Tryz.func14
def Ec.c:SF:=(⟨_,by dsimp⟩:{c:SF//c=⟨3,[.t 0],
 (cR [oG 0 (.mv (.k (.pointer none)))]
 (cR [oG 1 (.build [.v (.int .i32 0),zW,zW,zW,.v (.int .i32 0),.v (.int .i32 0),.v (.pointer none),zI] []),oB 2 1,oM 0 2]
 .ret))⟩}).1
theorem Ec.aA:Ck Tryz.f27 Ec.c:=cK
theorem Ec.ent:EnN 27:=eN Tryz.func27
def yV.c:SF:=(⟨_,by dsimp⟩:{c:SF//c=⟨26,[.c 6 true 8],
 (cR [oB 3 0,oB 4 1,oA 6 [zI,zI,zU,zI,zI,zI,.nil .u8,zI]]
 (cR [oL 10 3 3,oL 11 6 4,oG 12 (.aM 61 [.t 10,.t 11] [(1000,1000),(1001,1001)]),oM 9 12,oJ 13 9 0,oJ 14 9 1,oA 7 [zI,zU],oP 2 7 13,oM 8 14]
 (cI [oM 15 8,oZ 16 .neq 15 0] 16
 (cR [oM 17 8,oG 18 (.build [zI,zI,zU,zI,zI,zI,.nil .u8,zI] [(0,1,.t 17)]),oP 8 6 18]
 .ret)
 (cR [oL 19 3 3,oL 20 2 7,oM 21 2,oG 22 (.aM 63 [.t 19,.t 20,.t 21] [(1000,1000),(1001,1001)]),oJ 23 22 0,oJ 24 22 1,oC 25 62 [.t 23,.t 24],oP 8 6 25]
 .ret))))⟩}).1
theorem yV.aA:Ck Tryz.f33 yV.c:=cK
theorem yV.ent:EnN 33:=eN Tryz.func33
def xA.c:SF:=(⟨_,by dsimp⟩:{c:SF//c=⟨37,[.c 6 true 8],
 (cR [oB 3 0,oB 4 1,oB 5 2,oA 6 [zI,zI,zU,zI,zI,zI,.nil .u8,zI]]
 (cR [oL 10 3 3,oL 11 6 4,oG 12 (.aM 61 [.t 10,.t 11] [(1000,1000),(1001,1001)]),oM 9 12,oJ 13 9 0,oJ 14 9 1,oA 7 [zI,zU],oP 2 7 13,oM 8 14]
 (cI [oM 15 8,oZ 16 .neq 15 0] 16
 (cR [oM 17 8,oG 18 (.build [zI,zI,zU,zI,zI,zI,.nil .u8,zI] [(0,1,.t 17)]),oP 8 6 18]
 .ret)
 (cR [oL 20 2 7,oL 21 2 5,oC 22 64 [.t 20,.t 21],oM 19 22,oJ 23 19 0,oJ 24 19 1,oP 2 7 23,oM 8 24]
 (cI [oM 25 8,oZ 26 .neq 25 0] 26
 (cR [oM 27 8,oG 28 (.build [zI,zI,zU,zI,zI,zI,.nil .u8,zI] [(0,1,.t 27)]),oP 8 6 28]
 .ret)
 (cR [oL 29 3 3,oL 30 2 7,oD 31 0 4,oS 32 1 31 4,oG 33 (.aM 63 [.t 29,.t 30,.t 32] [(1000,1000),(1001,1001)]),oJ 34 33 0,oJ 35 33 1,oC 36 62 [.t 34,.t 35],oP 8 6 36]
 .ret))))))⟩}).1
theorem xA.aA:Ck Tryz.f34 xA.c:=cK
theorem xA.ent:EnN 34:=eN Tryz.func34
def vV.c:SF:=(⟨_,by dsimp⟩:{c:SF//c=⟨44,[.c 6 true 8],
 (cR [oB 3 0,oB 4 1,oB 5 2,oA 6 [zI,zI,zU,zI,zI,zI,.nil .u8,zI]]
 (cR [oL 12 3 3,oL 13 6 4,oG 14 (.aM 61 [.t 12,.t 13] [(1000,1000),(1001,1001)]),oM 11 14,oJ 15 11 0,oJ 16 11 1,oA 7 [zI,zU],oP 2 7 15,oM 8 16]
 (cI [oM 17 8,oZ 18 .neq 17 0] 18
 (cR [oM 19 8,oG 20 (.build [zI,zI,zU,zI,zI,zI,.nil .u8,zI] [(0,1,.t 19)]),oP 8 6 20]
 .ret)
 (cR [oD 22 0 3,oS 23 1 22 3,oL 24 3 5,oD 25 2 3,oS 26 1 25 3,oG 27 (.aM 65 [.t 23,.t 24,.t 26] [(1000,1000),(1001,1001)]),oM 21 27,oJ 28 21 0,oJ 29 21 1,oA 9 [zI,zU],oP 2 9 28,oM 8 29]
 (cI [oM 30 8,oZ 31 .neq 30 0] 31
 (cR [oM 32 8,oG 33 (.build [zI,zI,zU,zI,zI,zI,.nil .u8,zI] [(0,1,.t 32)]),oP 8 6 33]
 .ret)
 (cR [oL 35 2 9,oL 36 2 7,oC 37 66 [.t 35,.t 36],oM 34 37,oJ 38 34 0,oJ 39 34 1,oA 10 [zI,zU],oP 2 10 38,oM 8 39]
 (cR [oL 40 2 10,oG 41 (.build [zI,zI,zU,zI,zI,zI] [(1,2,.t 40)]),oM 42 8,oC 43 62 [.t 41,.t 42],oP 8 6 43]
 .ret)))))))⟩}).1
theorem vV.aA:Ck Tryz.f35 vV.c:=cK
theorem vV.ent:EnN 35:=eN Tryz.func35
def uK.c:SF:=(⟨_,by dsimp⟩:{c:SF//c=⟨40,[.t 2,.t 3],
 (cR [oB 1 0,oG 2 (.mv (.k (.pointer none))),oI 3 0]
 (cR [oL 8 3 1,oG 9 (.aM 84 [.t 8] [(1000,900)]),oM 7 9,oJ 10 7 0,oJ 11 7 1,oM 4 10,oM 5 11]
 (cI [oM 12 5,oZ 13 .neq 12 0] 13
 (cR [oM 14 5,oG 2 (.mv (.k (.pointer none))),oM 3 14]
 .ret)
 (cR [oM 15 4,oD 16 1 1,oS 17 1 16 1,oG 18 (.build [.v (.pointer none),.v (.pointer none),zI] [(0,1,.t 15),(2,1,.t 17)]),oB 19 18,oM 6 19]
 (cI [oM 20 4,oG 21 (.aM 85 [.t 20] [(1000,900)]),oZ 22 .eql 21 41317,oM 23 22,⟨some 24,.aI 2 (.t 1),some (23,true)⟩,⟨some 25,.load false 1 (.t 24) (some 1),some (23,true)⟩,⟨some 26,.idx 2 (.t 25) (kI 0),some (23,true)⟩,⟨some 27,.aI 1 (.t 26),some (23,true)⟩,⟨some 28,.load false 1 (.t 27) none,some (23,true)⟩,⟨some 29,.bin .eql (.t 28) (kI 10),some (23,true)⟩,oG 30 (.pick (.t 23) (.t 29) kF)] 30
 (.region [oM 32 6,oC 33 87 [],oC 34 86 [.t 33,kI 41317,kI 10],oM 31 34,oJ 35 31 0,oJ 36 31 1,oG 37 (.cB (.t 32)),oD 38 1 37,oQ 1 38 35 19])
 (cR [oM 39 6,oM 2 39,oI 3 0]
 .ret))))))⟩}).1
theorem uK.aA:Ck Tryz.f58 uK.c:=cK
theorem uK.ent:EnN 58:=eN Tryz.func58
def oO.c:SF:=(⟨_,by dsimp⟩:{c:SF//c=⟨56,[.c 4 true 2,.t 5],
 (cR [oB 2 0,oB 3 1,oA 4 [zI,zU],oI 5 0]
 (.seq (cR [oD 6 0 3,oS 7 1 6 3]
 (.block 0
 (.seq (cR [oZ 9 .eql 7 1,oM 8 9]
 (.cond (.t 8)
 .skip
 (cR [oZ 10 .eql 7 2,oM 8 10]
 (.cond (.t 8)
 .skip
 (cR [oZ 11 .eql 7 3,oM 8 11]
 (.cond (.t 8)
 .skip
 (.region [oZ 12 .eql 7 4,oM 8 12])))))))
 (.cond (.t 8)
 (cR [oD 13 0 3,oS 14 1 13 3,oD 15 1 3,oV 16 2 15 3,oC 17 94 [.t 14,.t 16],oJ 18 17 0,oJ 19 17 1,oP 2 4 18,oM 5 19]
 .ret)
 (cR [oZ 21 .eql 7 5,oM 20 21]
 (.cond (.t 20)
 (cR [oD 22 0 2,oS 23 1 22 2,oD 24 3 3,oV 25 3 24 3,oD 26 2 2,oS 27 1 26 2,oG 28 (.aM 65 [.t 23,.t 25,.t 27] [(1000,1000),(1001,1001)]),oJ 29 28 0,oJ 30 28 1,oP 2 4 29,oM 5 30]
 .ret)
 (cR [oZ 32 .eql 7 6,oM 31 32]
 (.cond (.t 31)
 (cR [oL 33 3 2,oD 34 1 3,oV 35 2 34 3,oG 36 (.aM 95 [.t 33,.t 35] [(1000,1000),(1001,1001)]),oJ 37 36 0,oJ 38 36 1,oP 2 4 37,oM 5 38]
 .ret)
 (cR [oZ 40 .eql 7 7,oM 39 40]
 (.cond (.t 39)
 (cR [oL 41 3 2,oD 42 1 3,oV 43 2 42 3,oG 44 (.aM 96 [.t 41,.t 43] [(1000,1000),(1001,1001)]),oJ 45 44 0,oJ 46 44 1,oP 2 4 45,oM 5 46]
 .ret)
 (cR [oZ 48 .eql 7 8,oM 47 48]
 (.cond (.t 47)
 (cR [oL 49 3 2,oD 50 1 3,oV 51 2 50 3,oG 52 (.aM 97 [.t 49,.t 51] [(1000,1000),(1001,1001)]),oJ 53 52 0,oJ 54 52 1,oP 2 4 53,oM 5 54]
 .ret)
 .skip))))))))))))
 (cR [oG 55 (.build [zI,zU] []),oP 2 4 55,oI 5 1]
 .ret)))⟩}).1
theorem oO.aA:Ck Tryz.f61 oO.c:=cK
theorem oO.ent:EnN 61:=eN Tryz.func61
def Ap.c:SF:=(⟨_,by dsimp⟩:{c:SF//c=⟨14,[.c 4 true 8],
 (cR [oB 2 0,oA 4 [zI,zI,zU,zI,zI,zI,.nil .u8,zI]]
 (cI [oM 5 1,oZ 6 .neq 5 0] 6
 (cR [oM 7 1,oG 8 (.build [zI,zI,zU,zI,zI,zI,.nil .u8,zI] [(0,1,.t 7)]),oP 8 4 8]
 .ret)
 (cR [oD 9 1 2,oV 10 2 9 2,oD 11 3 2,oV 12 3 11 2,oG 13 (.build [zI,zI,zU,zI,zI,zI,.nil .u8,zI] [(1,2,.t 10),(3,3,.t 12)]),oP 8 4 13]
 .ret)))⟩}).1
theorem Ap.aA:Ck Tryz.f62 Ap.c:=cK
theorem Ap.ent:EnN 62:=eN Tryz.func62
def lR.c:SF:=(⟨_,by dsimp⟩:{c:SF//c=⟨71,[.c 6 true 6,.t 7],
 (cR [oB 3 0,oB 4 1,oA 6 [zI,zI,zU,zI,zI,zI],oI 7 0]
 (.seq (cR [oM 13 2]
 (.block 0
 (.seq (cR [oZ 15 .eql 13 1,oM 14 15]
 (.cond (.t 14)
 .skip
 (cR [oZ 16 .eql 13 2,oM 14 16]
 (.cond (.t 14)
 .skip
 (cR [oZ 17 .eql 13 3,oM 14 17]
 (.cond (.t 14)
 .skip
 (.region [oZ 18 .eql 13 4,oM 14 18])))))))
 (.cond (.t 14)
 (cR [oM 20 2,oL 21 2 4,oC 22 98 [.t 20,.t 21],oM 19 22,oJ 23 19 0,oJ 24 19 1,oA 8 [zI,zU],oP 2 8 23,oM 9 24]
 (cR [oM 25 2,oL 26 2 8,oM 27 9,oC 28 99 [.t 25,.t 26,.t 27],oJ 29 28 0,oJ 30 28 1,oP 6 6 29,oM 7 30]
 .ret))
 (.seq (cR [oZ 32 .eql 13 5,oM 31 32]
 (.cond (.t 31)
 .skip
 (cR [oZ 33 .eql 13 6,oM 31 33]
 (.cond (.t 31)
 .skip
 (cR [oZ 34 .eql 13 7,oM 31 34]
 (.cond (.t 31)
 .skip
 (.region [oZ 35 .eql 13 8,oM 31 35])))))))
 (.cond (.t 31)
 (cR [oD 37 0 3,oS 38 1 37 3,oL 39 2 4,oD 40 2 3,oS 41 1 40 3,oG 42 (.aM 100 [.t 38,.t 39,.t 41] [(1000,1000),(1001,1001)]),oM 36 42,oJ 43 36 0,oJ 44 36 1,oA 10 [zI,zI,zI],oP 3 10 43,oM 11 44]
 (cI [oM 45 11,oZ 46 .neq 45 0] 46
 (cR [oG 47 (.build [zI,zI,zU,zI,zI,zI] []),oM 48 11,oP 6 6 47,oM 7 48]
 .ret)
 (cI [oM 49 2,oZ 50 .neq 49 8] 50
 (cR [oM 51 2,oL 52 3 10,oC 53 101 [.t 51,.t 52],oJ 54 53 0,oJ 55 53 1,oP 6 6 54,oM 7 55]
 .ret)
 (cR [oD 57 0 3,oS 58 1 57 3,oG 59 (.aM 103 [.t 58] [(1000,1000),(1001,1001)]),oL 60 2 4,oG 61 (.aM 102 [.t 59,.t 60] [(1000,1000)]),oM 56 61,oJ 62 56 0,oJ 63 56 1,oA 12 [zI,zU],oP 2 12 62,oM 11 63]
 (cR [oM 64 2,oL 65 2 12,oM 66 11,oC 67 99 [.t 64,.t 65,.t 66],oJ 68 67 0,oJ 69 67 1,oP 6 6 68,oM 7 69]
 .ret)))))
 .skip))))))
 (cR [oG 70 (.build [zI,zI,zU,zI,zI,zI] []),oP 6 6 70,oI 7 1]
 .ret)))⟩}).1
theorem lR.aA:Ck Tryz.f63 lR.c:=cK
theorem lR.ent:EnN 63:=eN Tryz.func63
def tG.c:SF:=(⟨_,by dsimp⟩:{c:SF//c=⟨31,[.c 6 true 2,.t 7],
 (cR [oB 4 1,oA 6 [zI,zU],oI 7 0]
 (cR [oM 11 0,oL 12 3 4,oG 13 (.aM 107 [.t 11,.t 12] [(1000,1000),(1001,1001)]),oM 10 13,oJ 14 10 0,oJ 15 10 1,oA 8 [zI,zU],oP 2 8 14,oM 9 15]
 (.seq (.block 0
 (cR [oM 17 9,oZ 18 .neq 17 0,oM 16 18]
 (.cond (.t 16)
 (cR [oG 19 (.build [zI,zU] []),oM 20 9,oP 2 6 19,oM 7 20]
 .ret)
 (cR [oM 22 2,oG 23 (.not (.t 22)),oM 24 23,⟨some 25,.mv (.t 0),some (24,true)⟩,⟨some 26,.load true 3 (.t 4) (some 4),some (24,true)⟩,⟨some 27,.aM 108 [.t 25,.t 26] [(1000,1000),(1001,1001)],some (24,true)⟩,oG 28 (.pick (.t 24) (.t 27) kF),oM 21 28]
 (.cond (.t 21)
 (cR [oG 29 (.build [zI,zU] []),oP 2 6 29,oI 7 9]
 .ret)
 .skip)))))
 (cR [oL 30 2 8,oP 2 6 30,oI 7 0]
 .ret))))⟩}).1
theorem tG.aA:Ck Tryz.f65 tG.c:=cK
theorem tG.ent:EnN 65:=eN Tryz.func65
def nC.l1:SC:=
 (.seq (.seq (.region [⟨some 7,.mv (.t 0),none⟩,⟨some 8,.nL true (.t 7) (.k (.string ⟨#[]⟩)),none⟩])
 (.cond (.t 8)
 .skip
 (.exit 0)))
 (.block 1
 (.seq (.region [⟨some 10,.mv (.t 0),none⟩,⟨some 11,.call 112 [(.t 10),(.k (.string ⟨#[10]⟩))],none⟩,⟨some 9,.mv (.t 11),none⟩,⟨some 12,.ext (.t 9) 0,none⟩,⟨some 13,.ext (.t 9) 1,none⟩,⟨some 14,.ext (.t 9) 2,none⟩,⟨some 4,.mv (.t 12),none⟩,⟨some 5,.mv (.t 13),none⟩,⟨some 6,.mv (.t 14),none⟩])
 (.seq (.region [⟨some 15,.mv (.t 3),none⟩,⟨some 16,.mv (.t 4),none⟩,⟨some 17,.fX ⟨9,1,none⟩ [.v (.string ⟨#[]⟩)] 1 [(0,1,(.t 16))],none⟩,⟨some 18,.app ⟨9,1,none⟩ (.t 15) (.t 17),none⟩,⟨some 3,.mv (.t 18),none⟩])
 (.region [⟨some 19,.mv (.t 5),none⟩,⟨some 0,.mv (.t 19),none⟩])))))
def nC.c:SF:=(⟨_,by dsimp⟩:{c:SF//c=⟨21,[.t 2],
 (cR [oG 2 (.mv (.nil .u8))]
 (cR [oG 3 (.mv (.nil .u8))]
 (.seq (.block 0
 (.loop nC.l1))
 (cR [oM 20 3,oM 2 20]
 .ret))))⟩}).1
theorem nC.aA:Ck Tryz.f81 nC.c:=cK
theorem nC.ent:EnN 81:=eN Tryz.func81
def Az.c:SF:=(⟨_,by dsimp⟩:{c:SF//c=⟨7,[.c 2 true 5],
 (cR [oB 1 0,oA 2 [zW,zW,zW,zW,zW]]
 (cR [oL 3 3 1,oC 4 116 [.t 3],oG 5 (.rG (.t 4)),oC 6 115 [.t 5],oP 5 2 6]
 .ret))⟩}).1
theorem Az.aA:Ck Tryz.f83 Az.c:=cK
theorem Az.ent:EnN 83:=eN Tryz.func83
def Bb.c:SF:=(⟨_,by dsimp⟩:{c:SF//c=⟨18,[.t 2,.t 3],
 (cR [oB 1 0,oG 2 (.mv (.k (.pointer none))),oI 3 0]
 (.seq (cR [oL 7 3 1,oC 8 117 [.t 7],oM 6 8,oJ 9 6 0,oJ 10 6 1,oM 4 9,oM 5 10]
 (cR [oM 11 5,oZ 12 .neq 11 0]
 (.cond (.t 12)
 (cR [oM 13 5,oG 2 (.mv (.k (.pointer none))),oM 3 13]
 .ret)
 .skip)))
 (cR [oL 14 3 1,oC 15 118 [.t 14],oG 16 (.build [zI,zI,.nil .u8,zW,.v (.int .i32 0),zW,.nil .u8,zI] [(0,3,.t 15)]),oB 17 16,oM 2 17,oI 3 0]
 .ret)))⟩}).1
theorem Bb.aA:Ck Tryz.f84 Bb.c:=cK
theorem Bb.ent:EnN 84:=eN Tryz.func84
def Em.c:SF:=(⟨_,by dsimp⟩:{c:SF//c=⟨10,[.t 2],
 (cR [oI 2 0]
 (cI [oM 3 0,oG 4 (.gW false (.t 3))] 4
 (cR [oI 2 0]
 .ret)
 (cR [oM 5 0,oG 6 (.aM 119 [.t 5] [(1000,1000)]),oG 7 (.idx 3 (.t 6) (kI 0)),oD 8 0 7,oG 9 (.load false 1 (.t 8) none),oM 2 9]
 .ret)))⟩}).1
theorem Em.aA:Ck Tryz.f85 Em.c:=cK
theorem Em.ent:EnN 85:=eN Tryz.func85
def kQ.l1:SC:=
 (.forget [10] (.seq (.region [⟨some 24,.bin .lss (.t 23) (.t 22),none⟩])
 (.seq (.cond (.t 24)
 .skip
 (.exit 0))
 (.seq (.block 1
 (.seq (.region [⟨some 25,.idx 4 (.t 21) (.t 23),none⟩,⟨some 26,.load true 4 (.t 25) none,none⟩,⟨some 10,.alloc [.v (.int .i64 0),.v (.int .i64 0),.v (.int .i64 0),.v (.int .i64 0)],none⟩,⟨none,.store 4 (.t 10) (.t 26) 10,none⟩])
 (.region [⟨some 27,.mv (.t 8),none⟩,⟨some 28,.mv (.t 8),none⟩,⟨some 29,.cB (.t 28),none⟩,⟨some 30,.aI 0 (.t 29),none⟩,⟨some 31,.load false 1 (.t 30) (some 20),none⟩,⟨some 32,.load true 4 (.t 10) (some 10),none⟩,⟨some 33,.call 121 [(.t 32)],none⟩,⟨some 34,.fX ⟨223,14,none⟩ [.v (.int .i64 0),.v (.int .i64 0),.v (.int .u64 0),.v (.int .i64 0),.v (.int .u64 0),.v (.int .i64 0),.v (.int .u64 0),.v (.int .i64 0),.v (.int .u64 0),.v (.int .i64 0),.v (.int .u64 0),.v (.int .i64 0),.v (.int .u64 0),.v (.int .i64 0)] 1 [(0,14,(.t 33))],none⟩,⟨some 35,.app ⟨223,14,none⟩ (.t 31) (.t 34),none⟩,⟨some 36,.cB (.t 27),none⟩,⟨some 37,.aI 0 (.t 36),none⟩,⟨none,.store 1 (.t 37) (.t 35) 20,none⟩])))
 (.region [⟨some 38,.bin .add (.t 23) (.k (.int .i64 1)),none⟩,⟨some 23,.mv (.t 38),none⟩])))))
def kQ.l2:SC:=
 (.forget [13] (.seq (.region [⟨some 45,.bin .lss (.t 44) (.t 43),none⟩])
 (.seq (.cond (.t 45)
 .skip
 (.exit 2))
 (.seq (.block 3
 (.seq (.region [⟨some 46,.mv (.t 44),none⟩,⟨some 11,.mv (.t 46),none⟩])
 (.seq (.region [⟨some 47,.mv (.t 8),none⟩,⟨some 48,.cB (.t 47),none⟩,⟨some 49,.aI 0 (.t 48),none⟩,⟨some 50,.load false 1 (.t 49) (some 20),none⟩,⟨some 51,.mv (.t 11),none⟩,⟨some 52,.idx 14 (.t 50) (.t 51),none⟩,⟨some 12,.mv (.t 52),none⟩])
 (.seq (.seq (.region [⟨some 53,.mv (.t 11),none⟩,⟨some 54,.bin .add (.t 53) (.k (.int .i64 1)),none⟩,⟨some 55,.mv (.t 8),none⟩,⟨some 56,.cB (.t 55),none⟩,⟨some 57,.aI 0 (.t 56),none⟩,⟨some 58,.load false 1 (.t 57) (some 20),none⟩,⟨some 59,.len (.t 58),none⟩,⟨some 60,.bin .lss (.t 54) (.t 59),none⟩])
 (.cond (.t 60)
 (.seq (.region [⟨some 61,.mv (.t 8),none⟩,⟨some 62,.cB (.t 61),none⟩,⟨some 63,.aI 0 (.t 62),none⟩,⟨some 64,.load false 1 (.t 63) (some 20),none⟩,⟨some 65,.mv (.t 11),none⟩,⟨some 66,.bin .add (.t 65) (.k (.int .i64 1)),none⟩,⟨some 67,.idx 14 (.t 64) (.t 66),none⟩,⟨some 68,.load true 14 (.t 67) (some 35),none⟩,⟨some 13,.alloc [.v (.int .i64 0),.v (.int .i64 0),.v (.int .u64 0),.v (.int .i64 0),.v (.int .u64 0),.v (.int .i64 0),.v (.int .u64 0),.v (.int .i64 0),.v (.int .u64 0),.v (.int .i64 0),.v (.int .u64 0),.v (.int .i64 0),.v (.int .u64 0),.v (.int .i64 0)],none⟩,⟨none,.store 14 (.t 13) (.t 68) 13,none⟩])
 (.seq (.region [⟨some 69,.mv (.t 12),none⟩,⟨some 70,.mv (.t 12),none⟩,⟨some 71,.aI 0 (.t 13),none⟩,⟨some 72,.load false 1 (.t 71) (some 13),none⟩,⟨some 73,.load true 14 (.t 13) (some 13),none⟩,⟨some 74,.aI 0 (.t 13),none⟩,⟨some 75,.load false 1 (.t 74) (some 13),none⟩,⟨some 76,.call 123 [(.t 75)],none⟩,⟨some 77,.call 122 [(.t 73),(.t 76)],none⟩,⟨some 78,.cB (.t 69),none⟩,⟨some 79,.aI 13 (.t 78),none⟩,⟨none,.store 1 (.t 79) (.t 72) 35,none⟩,⟨some 80,.cB (.t 70),none⟩,⟨some 81,.aI 11 (.t 80),none⟩,⟨none,.store 2 (.t 81) (.t 77) 35,none⟩])
 (.exit 3)))
 .skip))
 (.region [⟨some 82,.mv (.t 12),none⟩,⟨some 83,.mv (.t 12),none⟩,⟨some 84,.mv (.t 1),none⟩,⟨some 85,.mv (.t 1),none⟩,⟨some 86,.mv (.t 2),none⟩,⟨some 87,.build [.v (.int .i64 0),.v (.int .i64 0),.v (.int .i64 0)] [(0,1,(.t 85)),(1,1,(.t 86))],none⟩,⟨some 88,.call 124 [(.t 87)],none⟩,⟨some 89,.cB (.t 82),none⟩,⟨some 90,.aI 13 (.t 89),none⟩,⟨none,.store 1 (.t 90) (.t 84) 35,none⟩,⟨some 91,.cB (.t 83),none⟩,⟨some 92,.aI 11 (.t 91),none⟩,⟨none,.store 2 (.t 92) (.t 88) 35,none⟩])))))
 (.region [⟨some 93,.bin .add (.t 44) (.k (.int .i64 1)),none⟩,⟨some 44,.mv (.t 93),none⟩])))))
def kQ.c:SF:=(⟨_,by dsimp⟩:{c:SF//c=⟨98,[.t 6,.t 7],
 (cR [oG 6 (.mv (.k (.pointer none))),oI 7 0]
 (cI [oM 14 0,oM 15 1,oM 16 2,oC 17 120 [.t 14,.t 15,.t 16],oG 18 (.not (.t 17))] 18
 (cR [oG 6 (.mv (.k (.pointer none))),oI 7 10]
 .ret)
 (cR [oG 19 (.build [.nil .u8] []),oB 20 19,oM 8 20]
 (.seq (cR [oM 21 0,oG 22 (.len (.t 21)),oI 23 0]
 (.block 0
 (.loop kQ.l1)))
 (.seq (cR [oM 39 8,oG 40 (.cB (.t 39)),oD 41 0 40,oS 42 1 41 20,oG 43 (.len (.t 42)),oI 44 0]
 (.block 2
 (.loop kQ.l2)))
 (cI [oM 94 8,oG 95 (.lO 125 [.t 94]),oG 96 (.not (.t 95))] 96
 (cR [oG 6 (.mv (.k (.pointer none))),oI 7 10]
 .ret)
 (cR [oM 97 8,oM 6 97,oI 7 0]
 .ret)))))))⟩}).1
theorem kQ.aA:Ck Tryz.f86 kQ.c:=cK
theorem kQ.ent:EnN 86:=eN Tryz.func86
def Gx.c:SF:=(⟨_,by dsimp⟩:{c:SF//c=⟨15,[.t 0],
 (cR [oG 0 (.mv (.nil .u8))]
 (cR [oG 1 (.build [zI,zI,zI,zI] [(0,1,kI 37300),(1,1,kI 14228180),(2,1,kI 37300),(3,1,kI 12960)]),oG 2 (.build [zI,zI,zI,zI] [(0,1,kI 37512),(1,1,kI 13728180),(2,1,kI 37300),(3,1,kI 12960)]),oG 3 (.build [zI,zI,zI,zI] [(0,1,kI 37665),(1,1,kI 18458580),(2,1,kI 37665),(3,1,kI 11232)]),oG 4 (.build [zI,zI,zI,zI] [(0,1,kI 38334),(1,1,kI 19458580),(2,1,kI 37665),(3,1,kI 11232)]),oG 5 (.build [zI,zI,zI,zI] [(0,1,kI 38395),(1,1,kI 32401300),(2,1,kI 38761),(3,1,kI 12960)]),oG 6 (.build [zI,zI,zI,zI] [(0,1,kI 38486),(1,1,kI 33401300),(2,1,kI 38761),(3,1,kI 12960)]),oG 7 (.build [zI,zI,zI,zI] [(0,1,kI 38639),(1,1,kI 34401300),(2,1,kI 38761),(3,1,kI 12960)]),oG 8 (.build [zI,zI,zI,zI] [(0,1,kI 38761),(1,1,kI 35401300),(2,1,kI 38761),(3,1,kI 12960)]),oG 9 (.build [zI,zI,zI,zI] [(0,1,kI 38820),(1,1,kI 36401300),(2,1,kI 38761),(3,1,kI 12960)]),oG 10 (.build [zI,zI,zI,zI] [(0,1,kI 38942),(1,1,kI 37401300),(2,1,kI 38761),(3,1,kI 12960)]),oG 11 (.build [zI,zI,zI,zI] [(0,1,kI 39004),(1,1,kI 38401300),(2,1,kI 38761),(3,1,kI 12960)]),oG 12 (.build [zI,zI,zI,zI] [(0,1,kI 39126),(1,1,kI 43131700),(2,1,kI 39126),(3,1,kI 25920)]),oG 13 (.build [zI,zI,zI,zI] [(0,1,kI 39887),(1,1,kI 42131700),(2,1,kI 39126),(3,1,kI 25920)]),oG 14 (.sG ⟨221,4,none⟩ [zI,zI,zI,zI,zI,zI,zI,zI,zI,zI,zI,zI,zI,zI,zI,zI,zI,zI,zI,zI,zI,zI,zI,zI,zI,zI,zI,zI,zI,zI,zI,zI,zI,zI,zI,zI,zI,zI,zI,zI,zI,zI,zI,zI,zI,zI,zI,zI,zI,zI,zI,zI] 13 [(0,4,.t 1),(4,4,.t 2),(8,4,.t 3),(12,4,.t 4),(16,4,.t 5),(20,4,.t 6),(24,4,.t 7),(28,4,.t 8),(32,4,.t 9),(36,4,.t 10),(40,4,.t 11),(44,4,.t 12),(48,4,.t 13)]),oM 0 14]
 .ret))⟩}).1
theorem Gx.aA:Ck Tryz.f87 Gx.c:=cK
theorem Gx.ent:EnN 87:=eN Tryz.func87
def zO.c:SF:=(⟨_,by dsimp⟩:{c:SF//c=⟨29,[.c 4 true 2,.t 5],
 (cR [oB 2 0,oB 3 1,oA 4 [zI,zU],oI 5 0]
 (cR [oD 9 0 2,oS 10 1 9 2,oL 11 2 3,oD 12 1 2,oS 13 1 12 2,oG 14 (.aM 130 [.t 10,.t 11,.t 13] [(1000,1000),(1001,1001)]),oM 8 14,oJ 15 8 0,oJ 16 8 1,oA 6 [zI,zI,zI],oP 3 6 15,oM 7 16]
 (cI [oM 17 7,oZ 18 .neq 17 0] 18
 (cR [oG 19 (.build [zI,zU] []),oM 20 7,oP 2 4 19,oM 5 20]
 .ret)
 (cR [oD 21 0 2,oS 22 1 21 2,oL 23 3 6,oD 24 2 2,oS 25 1 24 2,oG 26 (.aM 65 [.t 22,.t 23,.t 25] [(1000,1000),(1001,1001)]),oJ 27 26 0,oJ 28 26 1,oP 2 4 27,oM 5 28]
 .ret))))⟩}).1
theorem zO.aA:Ck Tryz.f95 zO.c:=cK
theorem zO.ent:EnN 95:=eN Tryz.func95
def Ag.c:SF:=(⟨_,by dsimp⟩:{c:SF//c=⟨21,[.c 4 true 2,.t 5],
 (cR [oB 2 0,oB 3 1,oA 4 [zI,zU],oI 5 0]
 (cR [oL 8 2 3,oC 9 131 [.t 8],oM 7 9,oJ 10 7 0,oJ 11 7 1,oP 2 3 10,oM 6 11]
 (cI [oM 12 6,oZ 13 .neq 12 0] 13
 (cR [oG 14 (.build [zI,zU] []),oM 15 6,oP 2 4 14,oM 5 15]
 .ret)
 (cR [oL 16 3 2,oL 17 2 3,oG 18 (.aM 95 [.t 16,.t 17] [(1000,1000),(1001,1001)]),oJ 19 18 0,oJ 20 18 1,oP 2 4 19,oM 5 20]
 .ret))))⟩}).1
theorem Ag.aA:Ck Tryz.f96 Ag.c:=cK
theorem Ag.ent:EnN 96:=eN Tryz.func96
def yB.c:SF:=(⟨_,by dsimp⟩:{c:SF//c=⟨36,[.c 4 true 2,.t 5],
 (cR [oB 2 0,oB 3 1,oA 4 [zI,zU],oI 5 0]
 (cR [oD 11 0 2,oS 12 1 11 2,oG 13 (.aM 103 [.t 12] [(1000,1000),(1001,1001)]),oL 14 2 3,oG 15 (.aM 132 [.t 13,.t 14] [(1000,1000)]),oM 10 15,oJ 16 10 0,oJ 17 10 1,oA 6 [zI,zU],oP 2 6 16,oM 7 17]
 (cI [oM 18 7,oZ 19 .neq 18 0] 19
 (cR [oG 20 (.build [zI,zU] []),oM 21 7,oP 2 4 20,oM 5 21]
 .ret)
 (.seq (cR [oD 23 0 2,oS 24 1 23 2,oL 25 2 6,oD 26 2 2,oS 27 1 26 2,oG 28 (.aM 100 [.t 24,.t 25,.t 27] [(1000,1000),(1001,1001)]),oM 22 28,oJ 29 22 0,oJ 30 22 1,oA 8 [zI,zI,zI],oP 3 8 29,oM 9 30]
 (cR [oM 31 9,oZ 32 .neq 31 0]
 (.cond (.t 32)
 (cR [oG 33 (.build [zI,zU] []),oM 34 9,oP 2 4 33,oM 5 34]
 .ret)
 .skip)))
 (cR [oL 35 2 6,oP 2 4 35,oI 5 0]
 .ret)))))⟩}).1
theorem yB.aA:Ck Tryz.f97 yB.c:=cK
theorem yB.ent:EnN 97:=eN Tryz.func97
def Ar.c:SF:=(⟨_,by dsimp⟩:{c:SF//c=⟨15,[.c 6 true 6,.t 7],
 (cR [oB 4 1,oA 6 [zI,zI,zU,zI,zI,zI],oI 7 0]
 (cI [oM 8 2,oZ 9 .neq 8 0] 9
 (cR [oG 10 (.build [zI,zI,zU,zI,zI,zI] []),oM 11 2,oP 6 6 10,oM 7 11]
 .ret)
 (cR [oM 12 0,oL 13 2 4,oG 14 (.build [zI,zI,zU,zI,zI,zI] [(0,1,.t 12),(1,2,.t 13)]),oP 6 6 14,oI 7 0]
 .ret)))⟩}).1
theorem Ar.aA:Ck Tryz.f99 Ar.c:=cK
theorem Ar.ent:EnN 99:=eN Tryz.func99
def uQ.c:SF:=(⟨_,by dsimp⟩:{c:SF//c=⟨31,[.c 6 true 3,.t 7],
 (cR [oB 4 1,oA 6 [zI,zI,zI],oI 7 0]
 (cR [oM 11 0,oL 12 2 4,oG 13 (.aM 133 [.t 11,.t 12] [(1000,1000),(1001,1001)]),oM 10 13,oJ 14 10 0,oJ 15 10 1,oA 8 [zI,zI,zI],oP 3 8 14,oM 9 15]
 (.seq (.block 0
 (cR [oM 17 9,oZ 18 .neq 17 0,oM 16 18]
 (.cond (.t 16)
 (cR [oG 19 (.build [zI,zI,zI] []),oM 20 9,oP 3 6 19,oM 7 20]
 .ret)
 (cR [oM 22 2,oG 23 (.not (.t 22)),oM 24 23,⟨some 25,.mv (.t 0),some (24,true)⟩,⟨some 26,.load true 3 (.t 8) (some 8),some (24,true)⟩,⟨some 27,.aM 108 [.t 25,.t 26] [(1000,1000),(1001,1001)],some (24,true)⟩,oG 28 (.pick (.t 24) (.t 27) kF),oM 21 28]
 (.cond (.t 21)
 (cR [oG 29 (.build [zI,zI,zI] []),oP 3 6 29,oI 7 9]
 .ret)
 .skip)))))
 (cR [oL 30 3 8,oP 3 6 30,oI 7 0]
 .ret))))⟩}).1
theorem uQ.aA:Ck Tryz.f100 uQ.c:=cK
theorem uQ.ent:EnN 100:=eN Tryz.func100
def sU.c:SF:=(⟨_,by dsimp⟩:{c:SF//c=⟨35,[.c 4 true 6,.t 5],
 (cR [oB 3 1,oA 4 [zI,zI,zU,zI,zI,zI],oI 5 0]
 (cI [oM 8 0,oZ 9 .eql 8 5] 9
 (cR [oM 10 0,oL 11 3 3,oG 12 (.build [zI,zI,zU,zI,zI,zI] [(0,1,.t 10),(3,3,.t 11)]),oP 6 4 12,oI 5 0]
 .ret)
 (cR [oL 14 3 3,oC 15 134 [.t 14],oM 13 15,oJ 16 13 0,oJ 17 13 1,oA 6 [zI,zU],oP 2 6 16,oM 7 17]
 (cI [oM 18 7,oZ 19 .eql 18 0,oM 20 19,⟨some 21,.mv (.t 0),some (20,true)⟩,⟨some 22,.bin .eql (.t 21) (kI 7),some (20,true)⟩,oG 23 (.pick (.t 20) (.t 22) kF)] 23
 (.region [oL 25 2 6,oC 26 135 [.t 25],oM 24 26,oJ 27 24 0,oJ 28 24 1,oP 2 6 27,oM 7 28])
 (cR [oM 29 0,oL 30 2 6,oM 31 7,oC 32 99 [.t 29,.t 30,.t 31],oJ 33 32 0,oJ 34 32 1,oP 6 4 33,oM 5 34]
 .ret)))))⟩}).1
theorem sU.aA:Ck Tryz.f101 sU.c:=cK
theorem sU.ent:EnN 101:=eN Tryz.func101
def Ez.c:SF:=(⟨_,by dsimp⟩:{c:SF//c=⟨20,[.c 4 true 2,.t 5],
 (cR [oB 3 1,oA 4 [zI,zU],oI 5 0]
 (cR [oM 11 0,oL 12 2 3,oG 13 (.aM 136 [.t 11,.t 12] [(1000,1000)]),oM 10 13,oJ 14 10 0,oJ 15 10 1,oJ 16 10 2,oJ 17 10 3,oA 6 [zI,zU],oA 7 [zI,zU],oA 8 [zI,zU],oP 2 6 14,oP 2 7 15,oP 2 8 16,oM 9 17]
 (cR [oL 18 2 6,oM 19 9,oP 2 4 18,oM 5 19]
 .ret)))⟩}).1
theorem Ez.aA:Ck Tryz.f102 Ez.c:=cK
theorem Ez.ent:EnN 102:=eN Tryz.func102
def Cj.c:SF:=(⟨_,by dsimp⟩:{c:SF//c=⟨9,[.t 2],
 (cR [oG 2 (.mv (.k (.pointer none)))]
 (cI [oM 3 0,oG 4 (.gW false (.t 3))] 4
 (cR [oG 2 (.mv (.k (.pointer none)))]
 .ret)
 (cR [oM 5 0,oG 6 (.cB (.t 5)),oD 7 0 6,oS 8 1 7 1001,oM 2 8]
 .ret)))⟩}).1
theorem Cj.aA:Ck Tryz.f103 Cj.c:=cK
theorem Cj.ent:EnN 103:=eN Tryz.func103
def xY.c:SF:=(⟨_,by dsimp⟩:{c:SF//c=⟨27,[.c 4 true 2,.t 5],
 (cR [oB 3 1,oA 4 [zI,zU],oI 5 0]
 (cI [oM 6 0,oG 7 (.aM 138 [.t 6] [(1000,1000),(1001,1001)]),oM 8 7,⟨some 9,.aI 0 (.t 3),some (8,true)⟩,⟨some 10,.load false 1 (.t 9) (some 3),some (8,true)⟩,⟨some 11,.bin .lss (.t 10) (kI 41317),some (8,true)⟩,oG 12 (.pick (.t 8) (.t 11) kF)] 12
 (cR [oM 13 0,oG 14 (.cB (.t 13)),oD 15 1 14,oS 16 1 15 1001,oL 17 3 3,oC 18 139 [.t 16,.t 17],oJ 19 18 0,oJ 20 18 1,oP 2 4 19,oM 5 20]
 .ret)
 (cR [oM 21 0,oG 22 (.aM 103 [.t 21] [(1000,1000),(1001,1001)]),oL 23 3 3,oG 24 (.aM 140 [.t 22,.t 23] [(1000,1000)]),oJ 25 24 0,oJ 26 24 1,oP 2 4 25,oM 5 26]
 .ret)))⟩}).1
theorem xY.aA:Ck Tryz.f107 xY.c:=cK
theorem xY.ent:EnN 107:=eN Tryz.func107
def Fj.c:SF:=(⟨_,by dsimp⟩:{c:SF//c=⟨17,[.t 4],
 (cR [oB 3 1,oG 4 (.mv kF)]
 (cR [oD 5 0 3,oS 6 1 5 3,oZ 7 .sub 6 15020,oZ 8 .mul 7 86400,oD 9 1 3,oS 10 1 9 3,oY 11 .add 8 10,oM 12 0,oG 13 (.cB (.t 12)),oD 14 2 13,oS 15 1 14 1001,oY 16 .geq 11 15,oM 4 16]
 .ret))⟩}).1
theorem Fj.aA:Ck Tryz.f108 Fj.c:=cK
theorem Fj.ent:EnN 108:=eN Tryz.func108
def mZ.c:SF:=(⟨_,by dsimp⟩:{c:SF//c=⟨60,[.c 2 true 8,.t 3],
 (cR [oA 2 [zI,zI,zI,zW,zW,zW,zW,zW],oG 3 (.mv kF)]
 (cR [oM 5 0,oG 6 (.build [.v (.string ⟨#[]⟩)] [(0,1,.t 5)]),oB 7 6,oM 4 7]
 (.seq (.block 0
 (cR [oM 9 0,oC 10 143 [.t 9,(.k (.string ⟨#[35,36]⟩))],oM 8 10]
 (.cond (.t 8)
 (cR [oM 11 4,oM 12 0,oG 13 (.kZ (.t 12) (some (kI 2)) none),oG 14 (.cB (.t 11)),oD 15 0 14,oQ 1 15 13 7]
 (cR [oM 16 4,oG 17 (.aM 144 [.t 16,kI 2] [(1000,7)]),oJ 18 17 0,oJ 19 17 1,oP 8 2 18,oM 3 19]
 .ret))
 (cR [oM 21 0,oC 22 143 [.t 21,(.k (.string ⟨#[35,64]⟩))],oM 20 22]
 (.cond (.t 20)
 (cR [oM 23 4,oM 24 0,oG 25 (.kZ (.t 24) (some (kI 2)) none),oG 26 (.cB (.t 23)),oD 27 0 26,oQ 1 27 25 7]
 (cR [oM 28 4,oG 29 (.aM 144 [.t 28,kI 3] [(1000,7)]),oJ 30 29 0,oJ 31 29 1,oP 8 2 30,oM 3 31]
 .ret))
 (cR [oM 33 0,oC 34 143 [.t 33,(.k (.string ⟨#[35,104]⟩))],oM 32 34]
 (.cond (.t 32)
 (cR [oM 35 4,oM 36 0,oG 37 (.kZ (.t 36) (some (kI 2)) none),oG 38 (.cB (.t 35)),oD 39 0 38,oQ 1 39 37 7]
 (cR [oM 40 4,oG 41 (.aM 145 [.t 40] [(1000,7)]),oJ 42 41 0,oJ 43 41 1,oP 8 2 42,oM 3 43]
 .ret))
 (cR [oM 45 0,oC 46 143 [.t 45,(.k (.string ⟨#[35]⟩))],oM 47 46,⟨some 48,.mv (.t 4),some (47,false)⟩,⟨some 49,.aM 146 [.t 48] [(1000,7)],some (47,false)⟩,oG 50 (.pick (.t 47) kT (.t 49)),oM 44 50]
 (.cond (.t 44)
 (cR [oG 51 (.build [zI,zI,zI,zW,zW,zW,zW,zW] [(0,1,kI 1)]),oP 8 2 51,oG 3 (.mv kT)]
 .ret)
 .skip)))))))))
 (cR [oM 52 4,oM 53 0,oG 54 (.cB (.t 52)),oD 55 0 54,oQ 1 55 53 7]
 (cR [oM 56 4,oG 57 (.aM 147 [.t 56] [(1000,7)]),oJ 58 57 0,oJ 59 57 1,oP 8 2 58,oM 3 59]
 .ret)))))⟩}).1
theorem mZ.aA:Ck Tryz.f113 mZ.c:=cK
theorem mZ.ent:EnN 113:=eN Tryz.func113
def kA.c:SF:=(⟨_,by dsimp⟩:{c:SF//c=⟨55,[.t 4],
 (cR [oB 3 1,oG 4 (.mv kF)]
 (cI [oM 7 0,oG 8 (.len (.t 7)),oZ 9 .geq 8 64,oM 10 9,⟨some 11,.aI 0 (.t 3),some (10,false)⟩,⟨some 12,.load false 1 (.t 11) (some 3),some (10,false)⟩,⟨some 13,.call 148 [.t 12,kI 1125899906842624],some (10,false)⟩,⟨some 14,.not (.t 13),some (10,false)⟩,oG 15 (.pick (.t 10) kT (.t 14)),oM 16 15,⟨some 17,.aI 0 (.t 3),some (16,false)⟩,⟨some 18,.load false 1 (.t 17) (some 3),some (16,false)⟩,⟨some 19,.bin .rem (.t 18) (kI 86400),some (16,false)⟩,⟨some 20,.bin .neq (.t 19) (kI 0),some (16,false)⟩,oG 21 (.pick (.t 16) kT (.t 20)),oM 22 21,⟨some 23,.aI 1 (.t 3),some (22,false)⟩,⟨some 24,.load false 1 (.t 23) (some 3),some (22,false)⟩,⟨some 25,.call 148 [.t 24,kI 1000],some (22,false)⟩,⟨some 26,.not (.t 25),some (22,false)⟩,oG 27 (.pick (.t 22) kT (.t 26))] 27
 (cR [oG 4 (.mv kF)]
 .ret)
 (cI [oM 28 0,oG 29 (.len (.t 28)),oZ 30 .eql 29 0] 30
 (cR [oG 4 (.mv kT)]
 .ret)
 (cR [oM 31 0,oM 32 0,oG 33 (.len (.t 32)),oZ 34 .sub 33 1,oG 35 (.idx 2 (.t 31) (.t 34)),oG 36 (.load true 2 (.t 35) none),oA 5 [zI,zI],oP 2 5 36]
 (cR [oD 37 1 3,oS 38 1 37 3,oD 39 1 5,oS 40 1 39 5,oY 41 .sub 38 40,oM 6 41]
 (cR [oD 42 0 3,oS 43 1 42 3,oD 44 0 5,oS 45 1 44 5,oY 46 .gtr 43 45,oM 47 46,⟨some 48,.mv (.t 6),some (47,true)⟩,⟨some 49,.bin .eql (.t 48) (kI 1),some (47,true)⟩,⟨some 50,.mv (.t 49),some (47,true)⟩,⟨some 51,.mv (.t 6),some (50,false)⟩,⟨some 52,.bin .eql (.t 51) (kI (-1)),some (50,false)⟩,⟨some 53,.pick (.t 50) kT (.t 52),some (47,true)⟩,oG 54 (.pick (.t 47) (.t 53) kF),oM 4 54]
 .ret))))))⟩}).1
theorem kA.aA:Ck Tryz.f114 kA.c:=cK
theorem kA.ent:EnN 114:=eN Tryz.func114
def rR.l1:SC:=
 (.seq (.seq (.region [⟨some 8,.mv (.t 4),none⟩,⟨some 9,.len (.t 8),none⟩,⟨some 10,.bin .gtr (.t 9) (.k (.int .i64 0)),none⟩])
 (.cond (.t 10)
 .skip
 (.exit 0)))
 (.seq (.block 1
 (.region [⟨some 13,.mv (.t 4),none⟩,⟨some 14,.sl (.t 13) none (some (.k (.int .i64 64))),none⟩,⟨some 15,.aM 151 [(.t 3),(.t 14)] [(1000,3)],none⟩]))
 (.region [⟨some 11,.mv (.t 4),none⟩,⟨some 12,.sl (.t 11) (some (.k (.int .i64 64))) none,none⟩,⟨some 4,.mv (.t 12),none⟩])))
def rR.c:SF:=(⟨_,by dsimp⟩:{c:SF//c=⟨17,[.c 2 true 5],
 (cR [oA 2 [zW,zW,zW,zW,zW]]
 (cR [oC 5 149 [],oA 3 [zW,zW,zW,zW,zW],oP 5 3 5]
 (.seq (cR [oM 6 0,oC 7 150 [.t 6],oM 4 7]
 (.block 0
 (.loop rR.l1)))
 (cR [oL 16 5 3,oP 5 2 16]
 .ret))))⟩}).1
theorem rR.aA:Ck Tryz.f115 rR.c:=cK
theorem rR.ent:EnN 115:=eN Tryz.func115
def yZ.c:SF:=(⟨_,by dsimp⟩:{c:SF//c=⟨9,[.t 2],
 (cR [oB 1 0,oG 2 (.mv (.k (.string ⟨#[]⟩)))]
 (cI [oL 3 3 1,oC 4 152 [.t 3],oG 5 (.not (.t 4))] 5
 (cR [oG 2 (.mv (.k (.string ⟨#[]⟩)))]
 .ret)
 (cR [oL 6 3 1,oC 7 154 [.t 6],oC 8 153 [.t 7,(.k (.string ⟨#[]⟩))],oM 2 8]
 .ret)))⟩}).1
theorem yZ.aA:Ck Tryz.f116 yZ.c:=cK
theorem yZ.ent:EnN 116:=eN Tryz.func116
def kG.l1:SC:=
 (.forget [5] (.seq (.region [⟨some 10,.bin .lss (.t 9) (.t 8),none⟩])
 (.seq (.cond (.t 10)
 .skip
 (.exit 0))
 (.seq (.block 1
 (.seq (.region [⟨some 11,.mv (.t 9),none⟩,⟨some 12,.idx 2 (.t 7) (.t 9),none⟩,⟨some 13,.load true 2 (.t 12) none,none⟩,⟨some 5,.alloc [.v (.int .i64 0),.v (.int .i64 0)],none⟩,⟨some 4,.mv (.t 11),none⟩,⟨none,.store 2 (.t 5) (.t 13) 5,none⟩])
 (.seq (.region [⟨some 14,.aI 2 (.t 1),none⟩,⟨some 15,.load false 1 (.t 14) (some 1),none⟩,⟨some 16,.mv (.t 4),none⟩,⟨some 17,.yA 2 (.t 15) none (some (.t 16)),none⟩,⟨some 18,.load true 2 (.t 5) (some 5),none⟩,⟨some 19,.call 114 [(.t 17),(.t 18)],none⟩,⟨some 20,.not (.t 19),none⟩])
 (.cond (.t 20)
 (.seq (.region [⟨some 21,.mv (.t 4),none⟩,⟨some 2,.mv (.t 21),none⟩,⟨some 3,.mv (.k (.int .i64 10)),none⟩])
 .ret)
 .skip))))
 (.region [⟨some 22,.bin .add (.t 9) (.k (.int .i64 1)),none⟩,⟨some 9,.mv (.t 22),none⟩])))))
def kG.c:SF:=(⟨_,by dsimp⟩:{c:SF//c=⟨42,[.t 2,.t 3],
 (cR [oB 1 0,oI 2 0,oI 3 0]
 (.seq (cR [oD 6 2 1,oS 7 1 6 1,oG 8 (.len (.t 7)),oI 9 0]
 (.block 0
 (.loop kG.l1)))
 (cI [oD 23 2 1,oS 24 1 23 1,oG 25 (.len (.t 24)),oZ 26 .eql 25 0,oM 27 26,⟨some 28,.aI 0 (.t 1),some (27,false)⟩,⟨some 29,.load false 1 (.t 28) (some 1),some (27,false)⟩,⟨some 30,.call 148 [.t 29,kI 0xde0b6b3a763ffff],some (27,false)⟩,⟨some 31,.not (.t 30),some (27,false)⟩,oG 32 (.pick (.t 27) kT (.t 31)),oM 33 32,⟨some 34,.aI 1 (.t 1),some (33,false)⟩,⟨some 35,.load false 1 (.t 34) (some 1),some (33,false)⟩,⟨some 36,.call 148 [.t 35,kI 0xde0b6b3a763ffff],some (33,false)⟩,⟨some 37,.not (.t 36),some (33,false)⟩,oG 38 (.pick (.t 33) kT (.t 37))] 38
 (cR [oD 39 2 1,oS 40 1 39 1,oG 41 (.len (.t 40)),oM 2 41,oI 3 10]
 .ret)
 (cR [oI 2 0,oI 3 0]
 .ret))))⟩}).1
theorem kG.aA:Ck Tryz.f117 kG.c:=cK
theorem kG.ent:EnN 117:=eN Tryz.func117
def qI.l1:SC:=
 (.forget [8] (.seq (.region [⟨some 37,.bin .lss (.t 36) (.t 35),none⟩])
 (.seq (.cond (.t 37)
 .skip
 (.exit 0))
 (.seq (.block 1
 (.seq (.region [⟨some 38,.mv (.t 36),none⟩,⟨some 39,.idx 4 (.t 34) (.t 36),none⟩,⟨some 40,.load true 4 (.t 39) none,none⟩,⟨some 8,.alloc [.v (.int .i64 0),.v (.int .i64 0),.v (.int .i64 0),.v (.int .i64 0)],none⟩,⟨some 7,.mv (.t 38),none⟩,⟨none,.store 4 (.t 8) (.t 40) 8,none⟩])
 (.seq (.region [⟨some 41,.aI 0 (.t 8),none⟩,⟨some 42,.load false 1 (.t 41) (some 8),none⟩,⟨some 43,.call 157 [(.t 42),(.k (.int .i64 (-1048576))),(.k (.int .i64 1048576))],none⟩,⟨some 44,.not (.t 43),none⟩,⟨some 45,.mv (.t 44),none⟩,⟨some 46,.aI 1 (.t 8),some (45,false)⟩,⟨some 47,.load false 1 (.t 46) (some 8),some (45,false)⟩,⟨some 48,.call 157 [(.t 47),(.k (.int .i64 (-1000000000))),(.k (.int .i64 1000000000))],some (45,false)⟩,⟨some 49,.not (.t 48),some (45,false)⟩,⟨some 50,.pick (.t 45) (.k (.bool true)) (.t 49),none⟩,⟨some 51,.mv (.t 50),none⟩,⟨some 52,.aI 2 (.t 8),some (51,false)⟩,⟨some 53,.load false 1 (.t 52) (some 8),some (51,false)⟩,⟨some 54,.call 157 [(.t 53),(.k (.int .i64 (-1048576))),(.k (.int .i64 1048576))],some (51,false)⟩,⟨some 55,.not (.t 54),some (51,false)⟩,⟨some 56,.pick (.t 51) (.k (.bool true)) (.t 55),none⟩,⟨some 57,.mv (.t 56),none⟩,⟨some 58,.aI 3 (.t 8),some (57,false)⟩,⟨some 59,.load false 1 (.t 58) (some 8),some (57,false)⟩,⟨some 60,.call 157 [(.t 59),(.k (.int .i64 0)),(.k (.int .i64 1000000))],some (57,false)⟩,⟨some 61,.not (.t 60),some (57,false)⟩,⟨some 62,.pick (.t 57) (.k (.bool true)) (.t 61),none⟩,⟨some 63,.mv (.t 62),none⟩,⟨some 64,.mv (.t 7),some (63,false)⟩,⟨some 65,.bin .gtr (.t 64) (.k (.int .i64 0)),some (63,false)⟩,⟨some 66,.mv (.t 65),some (63,false)⟩,⟨some 67,.mv (.t 0),some (66,true)⟩,⟨some 68,.mv (.t 7),some (66,true)⟩,⟨some 69,.bin .sub (.t 68) (.k (.int .i64 1)),some (66,true)⟩,⟨some 70,.idx 4 (.t 67) (.t 69),some (66,true)⟩,⟨some 71,.aI 0 (.t 70),some (66,true)⟩,⟨some 72,.load false 1 (.t 71) none,some (66,true)⟩,⟨some 73,.aI 0 (.t 8),some (66,true)⟩,⟨some 74,.load false 1 (.t 73) (some 8),some (66,true)⟩,⟨some 75,.bin .geq (.t 72) (.t 74),some (66,true)⟩,⟨some 76,.pick (.t 66) (.t 75) (.k (.bool false)),some (63,false)⟩,⟨some 77,.pick (.t 63) (.k (.bool true)) (.t 76),none⟩])
 (.cond (.t 77)
 (.seq (.region [⟨some 6,.mv (.k (.bool false)),none⟩])
 .ret)
 .skip))))
 (.region [⟨some 78,.bin .add (.t 36) (.k (.int .i64 1)),none⟩,⟨some 36,.mv (.t 78),none⟩])))))
def qI.c:SF:=(⟨_,by dsimp⟩:{c:SF//c=⟨79,[.t 6],
 (cR [oG 6 (.mv kF)]
 (cI [oM 9 0,oG 10 (.len (.t 9)),oC 11 157 [.t 10,kI 1,kI 32],oG 12 (.not (.t 11)),oM 13 12,⟨some 14,.mv (.t 1),some (13,false)⟩,⟨some 15,.call 157 [.t 14,kI (-1048576),kI 1048576],some (13,false)⟩,⟨some 16,.not (.t 15),some (13,false)⟩,oG 17 (.pick (.t 13) kT (.t 16)),oM 18 17,⟨some 19,.mv (.t 2),some (18,false)⟩,⟨some 20,.call 157 [.t 19,kI 0,kI 1000],some (18,false)⟩,⟨some 21,.not (.t 20),some (18,false)⟩,oG 22 (.pick (.t 18) kT (.t 21)),oM 23 22,⟨some 24,.mv (.t 0),some (23,false)⟩,⟨some 25,.mv (.t 0),some (23,false)⟩,⟨some 26,.len (.t 25),some (23,false)⟩,⟨some 27,.bin .sub (.t 26) (kI 1),some (23,false)⟩,⟨some 28,.idx 4 (.t 24) (.t 27),some (23,false)⟩,⟨some 29,.aI 0 (.t 28),some (23,false)⟩,⟨some 30,.load false 1 (.t 29) none,some (23,false)⟩,⟨some 31,.mv (.t 1),some (23,false)⟩,⟨some 32,.bin .geq (.t 30) (.t 31),some (23,false)⟩,oG 33 (.pick (.t 23) kT (.t 32))] 33
 (cR [oG 6 (.mv kF)]
 .ret)
 (.seq (cR [oM 34 0,oG 35 (.len (.t 34)),oI 36 0]
 (.block 0
 (.loop qI.l1)))
 (cR [oG 6 (.mv kT)]
 .ret))))⟩}).1
theorem qI.aA:Ck Tryz.f120 qI.c:=cK
theorem qI.ent:EnN 120:=eN Tryz.func120
def Bo.c:SF:=(⟨_,by dsimp⟩:{c:SF//c=⟨24,[.c 2 true 14],
 (cR [oB 1 0,oA 2 [zI,zI,zU,zI,zU,zI,zU,zI,zU,zI,zU,zI,zU,zI]]
 (cR [oD 4 0 1,oS 5 1 4 1,oD 6 1 1,oS 7 1 6 1,oC 8 158 [.t 7,kI 100000000000],oD 9 2 1,oS 10 1 9 1,oC 11 123 [.t 10],oC 12 123 [kI 1],oD 13 3 1,oS 14 1 13 1,oC 15 158 [.t 14,kI 100000000000],oG 16 (.build [zI,zI,zU,zI,zU,zI,zU,zI,zU,zI,zU,zI,zU,zI] [(0,1,.t 5),(1,2,.t 8),(3,2,.t 11),(5,2,.t 12),(9,2,.t 15)]),oA 3 [zI,zI,zU,zI,zU,zI,zU,zI,zU,zI,zU,zI,zU,zI],oP 14 3 16]
 (cR [oD 17 5 3,oV 18 2 17 3,oD 19 9 3,oV 20 2 19 3,oC 21 159 [.t 18,.t 20],oD 22 7 3,oQ 2 22 21 3]
 (cR [oL 23 14 3,oP 14 2 23]
 .ret))))⟩}).1
theorem Bo.aA:Ck Tryz.f121 Bo.c:=cK
theorem Bo.ent:EnN 121:=eN Tryz.func121
def yE.c:SF:=(⟨_,by dsimp⟩:{c:SF//c=⟨27,[.c 4 true 2],
 (cR [oB 2 0,oB 3 1,oA 4 [zI,zU]]
 (cR [oL 9 2 3,oD 10 3 2,oV 11 2 10 2,oC 12 161 [.t 9,.t 11],oD 13 9 2,oV 14 2 13 2,oD 15 5 2,oV 16 2 15 2,oC 17 160 [.t 12,.t 14,.t 16],oM 8 17,oJ 18 8 0,oJ 19 8 1,oJ 20 8 2,oA 5 [zI,zU],oA 6 [zI,zU],oP 2 5 18,oP 2 6 19,oM 7 20]
 (cR [oL 21 2 3,oD 22 1 2,oV 23 2 22 2,oC 24 159 [.t 21,.t 23],oL 25 2 5,oC 26 159 [.t 24,.t 25],oP 2 4 26]
 .ret)))⟩}).1
theorem yE.aA:Ck Tryz.f122 yE.c:=cK
theorem yE.ent:EnN 122:=eN Tryz.func122
def Dy.c:SF:=(⟨_,by dsimp⟩:{c:SF//c=⟨6,[.c 2 true 2],
 (cR [oA 2 [zI,zU]]
 (cR [oM 3 0,oG 4 (.build [zI,zI,zI] [(0,1,.t 3)]),oC 5 124 [.t 4],oP 2 2 5]
 .ret))⟩}).1
theorem Dy.aA:Ck Tryz.f123 Dy.c:=cK
theorem Dy.ent:EnN 123:=eN Tryz.func123
def Ce.c:SF:=(⟨_,by dsimp⟩:{c:SF//c=⟨14,[.c 2 true 2],
 (cR [oB 1 0,oA 2 [zI,zU]]
 (cR [oD 3 0 1,oS 4 1 3 1,oZ 5 .mul 4 86400,oD 6 1 1,oS 7 1 6 1,oY 8 .add 5 7,oC 9 158 [.t 8,kI 0xde0b6b3a7640000],oD 10 2 1,oS 11 1 10 1,oC 12 162 [.t 11],oC 13 159 [.t 9,.t 12],oP 2 2 13]
 .ret))⟩}).1
theorem Ce.aA:Ck Tryz.f124 Ce.c:=cK
theorem Ce.ent:EnN 124:=eN Tryz.func124
def Eo.c:SF:=(⟨_,by dsimp⟩:{c:SF//c=⟨9,[.t 2],
 (cR [oG 2 (.mv kF)]
 (cR [oM 3 0,oG 4 (.cB (.t 3)),oD 5 0 4,oG 6 (.load false 1 (.t 5) none),oC 7 163 [.t 6,(.f 164)],oG 8 (.not (.t 7)),oM 2 8]
 .ret))⟩}).1
theorem Eo.aA:Ck Tryz.f125 Eo.c:=cK
theorem Eo.ent:EnN 125:=eN Tryz.func125
def rA.c:SF:=(⟨_,by dsimp⟩:{c:SF//c=⟨38,[.c 6 true 3,.t 7],
 (cR [oB 4 1,oA 6 [zI,zI,zI],oI 7 0]
 (cR [oM 13 0,oL 14 2 4,oG 15 (.aM 172 [.t 13,.t 14] [(1000,1000),(1001,1001)]),oM 12 15,oJ 16 12 0,oJ 17 12 1,oJ 18 12 2,oJ 19 12 3,oA 8 [zI,zI,zI],oA 9 [zI,zI,zI],oP 3 8 16,oP 3 9 17,oM 10 18,oM 11 19]
 (.seq (.block 0
 (cR [oM 21 11,oZ 22 .neq 21 0,oM 20 22]
 (.cond (.t 20)
 (cR [oG 23 (.build [zI,zI,zI] []),oM 24 11,oP 3 6 23,oM 7 24]
 .ret)
 (cR [oM 26 10,oZ 27 .eql 26 1,oM 28 27,⟨some 29,.mv (.t 2),some (28,false)⟩,⟨some 30,.bin .eql (.t 29) (kI 2),some (28,false)⟩,oG 31 (.pick (.t 28) kT (.t 30)),oM 25 31]
 (.cond (.t 25)
 (cR [oL 32 3 9,oP 3 6 32,oI 7 0]
 .ret)
 (cR [oM 34 2,oZ 35 .eql 34 1,oM 33 35]
 (.cond (.t 33)
 (cR [oL 36 3 8,oP 3 6 36,oI 7 0]
 .ret)
 .skip)))))))
 (cR [oG 37 (.build [zI,zI,zI] []),oP 3 6 37,oI 7 7]
 .ret))))⟩}).1
theorem rA.aA:Ck Tryz.f130 rA.c:=cK
theorem rA.ent:EnN 130:=eN Tryz.func130
def Cw.c:SF:=(⟨_,by dsimp⟩:{c:SF//c=⟨9,[.c 2 true 2,.t 3],
 (cR [oB 1 0,oA 2 [zI,zU],oI 3 0]
 (cR [oL 4 2 1,oC 5 173 [kI 2208988800],oC 6 66 [.t 4,.t 5],oJ 7 6 0,oJ 8 6 1,oP 2 2 7,oM 3 8]
 .ret))⟩}).1
theorem Cw.aA:Ck Tryz.f131 Cw.c:=cK
theorem Cw.ent:EnN 131:=eN Tryz.func131
def jL.l1:SC:=
 (.forget [12,13,14,15] (.seq (.region [⟨some 61,.bin .lss (.t 60) (.t 59),none⟩])
 (.seq (.cond (.t 61)
 .skip
 (.exit 0))
 (.seq (.block 1
 (.seq (.region [⟨some 62,.idx 7 (.t 58) (.t 60),none⟩,⟨some 63,.load true 7 (.t 62) none,none⟩,⟨some 12,.alloc [.v (.int .i64 0),.v (.int .u64 0),.v (.int .i64 0),.v (.int .u64 0),.v (.int .i64 0),.v (.int .u64 0),.v (.int .i64 0)],none⟩,⟨none,.store 7 (.t 12) (.t 63) 12,none⟩])
 (.seq (.region [⟨some 64,.load true 2 (.t 3) (some 3),none⟩,⟨some 65,.aI 4 (.t 12),none⟩,⟨some 66,.load true 2 (.t 65) (some 12),none⟩,⟨some 67,.call 174 [(.t 64),(.t 66)],none⟩,⟨some 13,.alloc [.v (.int .i64 0),.v (.int .u64 0)],none⟩,⟨none,.store 2 (.t 13) (.t 67) 13,none⟩])
 (.seq (.seq (.region [⟨some 68,.aI 0 (.t 13),none⟩,⟨some 69,.load false 1 (.t 68) (some 13),none⟩,⟨some 70,.bin .lss (.t 69) (.k (.int .i64 0)),none⟩,⟨some 71,.mv (.t 70),none⟩,⟨some 72,.load true 2 (.t 13) (some 13),some (71,false)⟩,⟨some 73,.call 176 [(.k (.int .i64 86400))],some (71,false)⟩,⟨some 74,.call 165 [(.t 72),(.t 73)],some (71,false)⟩,⟨some 75,.bin .geq (.t 74) (.k (.int .i64 0)),some (71,false)⟩,⟨some 76,.pick (.t 71) (.k (.bool true)) (.t 75),none⟩])
 (.cond (.t 76)
 (.exit 1)
 .skip))
 (.seq (.region [⟨some 78,.load true 2 (.t 13) (some 13),none⟩,⟨some 79,.load true 7 (.t 12) (some 12),none⟩,⟨some 80,.call 179 [(.t 79)],none⟩,⟨some 81,.call 162 [(.k (.int .i64 86400))],none⟩,⟨some 82,.call 160 [(.t 78),(.t 80),(.t 81)],none⟩,⟨some 77,.mv (.t 82),none⟩,⟨some 83,.ext (.t 77) 0,none⟩,⟨some 84,.ext (.t 77) 1,none⟩,⟨some 85,.ext (.t 77) 2,none⟩,⟨some 14,.alloc [.v (.int .i64 0),.v (.int .u64 0)],none⟩,⟨some 15,.alloc [.v (.int .i64 0),.v (.int .u64 0)],none⟩,⟨none,.store 2 (.t 14) (.t 83) 14,none⟩,⟨none,.store 2 (.t 15) (.t 84) 15,none⟩,⟨some 16,.mv (.t 85),none⟩])
 (.seq (.seq (.region [⟨some 86,.load true 2 (.t 15) (some 15),none⟩,⟨some 87,.build [.v (.int .i64 0),.v (.int .u64 0)] [],none⟩,⟨some 88,.eqs true [.i64,.u64] (.t 86) (.t 87),none⟩])
 (.cond (.t 88)
 (.region [⟨some 89,.load true 2 (.t 14) (some 14),none⟩,⟨some 90,.call 162 [(.k (.int .i64 1))],none⟩,⟨some 91,.call 180 [(.t 89),(.t 90)],none⟩,⟨none,.store 2 (.t 14) (.t 91) 14,none⟩])
 .skip))
 (.seq (.region [⟨some 92,.aI 0 (.t 12),none⟩,⟨some 93,.load true 2 (.t 92) (some 12),none⟩,⟨some 94,.load true 2 (.t 14) (some 14),none⟩,⟨some 95,.call 180 [(.t 93),(.t 94)],none⟩,⟨none,.store 2 (.t 4) (.t 95) 4,none⟩,⟨some 5,.mv (.k (.int .i64 0)),none⟩])
 .ret)))))))
 (.region [⟨some 96,.bin .add (.t 60) (.k (.int .i64 1)),none⟩,⟨some 60,.mv (.t 96),none⟩])))))
def jL.c:SF:=(⟨_,by dsimp⟩:{c:SF//c=⟨110,[.c 4 true 2,.t 5],
 (cR [oB 3 1,oA 4 [zI,zU],oI 5 0]
 (cI [oM 17 0,oG 18 (.gW false (.t 17))] 18
 (cR [oG 19 (.build [zI,zU] []),oP 2 4 19,oI 5 12]
 .ret)
 (cR [oM 20 0,oG 21 (.aM 175 [.t 20] [(1000,1000)]),oC 22 176 [kI 3506716800],oC 23 174 [.t 21,.t 22],oA 6 [zI,zU],oP 2 6 23]
 (cR [oM 25 0,oM 26 0,oG 27 (.aM 85 [.t 26] [(1000,1000)]),oG 28 (.aM 177 [.t 25,.t 27] [(1000,1000)]),oM 24 28,oJ 29 24 0,oJ 30 24 1,oM 7 29,oM 8 30]
 (cI [oL 31 2 3,oL 32 2 6,oM 33 7,oC 34 176 [.t 33],oC 35 174 [.t 32,.t 34],oC 36 165 [.t 31,.t 35],oZ 37 .lss 36 0] 37
 (cR [oG 38 (.build [zI,zU] []),oP 2 4 38,oI 5 8]
 .ret)
 (cR [oL 40 2 3,oC 41 171 [.t 40],oM 39 41,oJ 42 39 0,oJ 43 39 1,oA 9 [zI,zI,zI],oP 3 9 42,oM 10 43]
 (cI [oM 44 10,oZ 45 .neq 44 0,oM 46 45,⟨some 47,.aI 0 (.t 9),some (46,false)⟩,⟨some 48,.load false 1 (.t 47) (some 9),some (46,false)⟩,⟨some 49,.bin .lss (.t 48) (kI (-1099511577776)),some (46,false)⟩,oG 50 (.pick (.t 46) kT (.t 49)),oM 51 50,⟨some 52,.aI 0 (.t 9),some (51,false)⟩,⟨some 53,.load false 1 (.t 52) (some 9),some (51,false)⟩,⟨some 54,.bin .gtr (.t 53) (kI 1099511577776),some (51,false)⟩,oG 55 (.pick (.t 51) kT (.t 54))] 55
 (cR [oG 56 (.build [zI,zU] []),oP 2 4 56,oI 5 2]
 .ret)
 (.seq (cR [oM 57 0,oG 58 (.aM 178 [.t 57] [(1000,1000)]),oG 59 (.len (.t 58)),oI 60 0]
 (.block 0
 (.loop jL.l1)))
 (cR [oM 98 0,oD 99 0 9,oS 100 1 99 9,oZ 101 .add 100 40587,oG 102 (.aM 177 [.t 98,.t 101] [(1000,1000)]),oM 97 102,oJ 103 97 0,oJ 104 97 1,oM 7 103]
 (cR [oL 105 2 3,oM 106 7,oX 107 .add (kI 3506716800) (.t 106),oC 108 176 [.t 107],oC 109 180 [.t 105,.t 108],oP 2 4 109,oI 5 0]
 .ret))))))))))⟩}).1
theorem jL.aA:Ck Tryz.f132 jL.c:=cK
theorem jL.ent:EnN 132:=eN Tryz.func132
def wX.c:SF:=(⟨_,by dsimp⟩:{c:SF//c=⟨31,[.c 4 true 3,.t 5],
 (cR [oB 3 1,oA 4 [zI,zI,zI],oI 5 0]
 (cR [oM 9 0,oG 10 (.aM 103 [.t 9] [(1000,1000),(1001,1001)]),oL 11 2 3,oG 12 (.aM 181 [.t 10,.t 11] [(1000,1000)]),oM 8 12,oJ 13 8 0,oJ 14 8 1,oA 6 [zI,zI,zI],oP 3 6 13,oM 7 14]
 (cI [oM 15 0,oG 16 (.aM 138 [.t 15] [(1000,1000),(1001,1001)]),oM 17 16,⟨some 18,.mv (.t 7),some (17,true)⟩,⟨some 19,.bin .eql (.t 18) (kI 8),some (17,true)⟩,oG 20 (.pick (.t 17) (.t 19) kF)] 20
 (cR [oM 21 0,oG 22 (.cB (.t 21)),oD 23 1 22,oS 24 1 23 1001,oL 25 2 3,oC 26 182 [.t 24,.t 25],oJ 27 26 0,oJ 28 26 1,oP 3 4 27,oM 5 28]
 .ret)
 (cR [oL 29 3 6,oM 30 7,oP 3 4 29,oM 5 30]
 .ret))))⟩}).1
theorem wX.aA:Ck Tryz.f133 wX.c:=cK
theorem wX.ent:EnN 133:=eN Tryz.func133
def uX.c:SF:=(⟨_,by dsimp⟩:{c:SF//c=⟨33,[.c 2 true 2,.t 3],
 (cR [oB 1 0,oA 2 [zI,zU],oI 3 0]
 (.seq (.block 0
 (cR [oL 5 3 1,oC 6 183 [.t 5],oG 7 (.not (.t 6)),oM 4 7]
 (.cond (.t 4)
 (cR [oG 8 (.build [zI,zU] []),oP 2 2 8,oI 3 1]
 .ret)
 (cR [oD 10 0 1,oS 11 1 10 1,oZ 12 .lss 11 (-1099511627776),oM 13 12,⟨some 14,.aI 0 (.t 1),some (13,false)⟩,⟨some 15,.load false 1 (.t 14) (some 1),some (13,false)⟩,⟨some 16,.bin .gtr (.t 15) (kI 1099511627776),some (13,false)⟩,oG 17 (.pick (.t 13) kT (.t 16)),oM 9 17]
 (.cond (.t 9)
 (cR [oG 18 (.build [zI,zU] []),oP 2 2 18,oI 3 2]
 .ret)
 .skip)))))
 (cR [oD 19 0 1,oS 20 1 19 1,oZ 21 .sub 20 40587,oZ 22 .mul 21 86400,oD 23 1 1,oS 24 1 23 1,oY 25 .add 22 24,oC 26 173 [.t 25],oD 27 2 1,oS 28 1 27 1,oC 29 162 [.t 28],oC 30 64 [.t 26,.t 29],oJ 31 30 0,oJ 32 30 1,oP 2 2 31,oM 3 32]
 .ret)))⟩}).1
theorem uX.aA:Ck Tryz.f134 uX.c:=cK
theorem uX.ent:EnN 134:=eN Tryz.func134
def Cl.c:SF:=(⟨_,by dsimp⟩:{c:SF//c=⟨9,[.c 2 true 2,.t 3],
 (cR [oB 1 0,oA 2 [zI,zU],oI 3 0]
 (cR [oL 4 2 1,oC 5 173 [kI 2208988800],oC 6 64 [.t 4,.t 5],oJ 7 6 0,oJ 8 6 1,oP 2 2 7,oM 3 8]
 .ret))⟩}).1
theorem Cl.aA:Ck Tryz.f135 Cl.c:=cK
theorem Cl.ent:EnN 135:=eN Tryz.func135
def uU.c:SF:=(⟨_,by dsimp⟩:{c:SF//c=⟨81,[.c 4 true 2,.c 5 true 2,.c 6 true 2,.t 7],
 (cR [oB 3 1,oA 4 [zI,zU],oA 5 [zI,zU],oA 6 [zI,zU],oI 7 0]
 (cI [oM 17 0,oG 18 (.gW false (.t 17))] 18
 (cR [oL 19 2 4,oL 20 2 5,oL 21 2 6,oP 2 4 19,oP 2 5 20,oP 2 6 21,oI 7 12]
 .ret)
 (cI [oL 22 2 3,oM 23 0,oG 24 (.aM 175 [.t 23] [(1000,1000)]),oC 25 165 [.t 22,.t 24],oZ 26 .lss 25 0] 26
 (cR [oL 27 2 4,oL 28 2 5,oL 29 2 6,oP 2 4 27,oP 2 5 28,oP 2 6 29,oI 7 8]
 .ret)
 (cR [oL 31 2 3,oC 32 184 [.t 31],oM 30 32,oJ 33 30 0,oJ 34 30 1,oM 8 33,oM 7 34]
 (cI [oM 35 7,oZ 36 .neq 35 0] 36
 (cR [oL 37 2 4,oL 38 2 5,oL 39 2 6,oM 40 7,oP 2 4 37,oP 2 5 38,oP 2 6 39,oM 7 40]
 .ret)
 (.seq (cR [oM 42 0,oL 43 2 3,oG 44 (.aM 185 [.t 42,.t 43] [(1000,1000)]),oM 41 44,oJ 45 41 0,oJ 46 41 1,oA 9 [zI,zU,zI,zU,zI,zU,zI],oP 7 9 45,oM 10 46]
 (cR [oM 47 10]
 (.cond (.t 47)
 (cR [oL 49 2 3,oD 50 0 9,oV 51 2 50 9,oC 52 174 [.t 49,.t 51],oC 53 162 [kI 86400],oL 54 7 9,oC 55 179 [.t 54],oC 56 160 [.t 52,.t 53,.t 55],oM 48 56,oJ 57 48 0,oJ 58 48 1,oJ 59 48 2,oA 11 [zI,zU],oA 12 [zI,zU],oP 2 11 57,oP 2 12 58,oM 13 59]
 (cR [oD 60 4 9,oV 61 2 60 9,oL 62 2 11,oC 63 180 [.t 61,.t 62],oL 64 2 12,oL 65 7 9,oC 66 179 [.t 65],oP 2 4 63,oP 2 5 64,oP 2 6 66,oI 7 0]
 .ret))
 .skip)))
 (cR [oM 68 0,oM 69 8,oG 70 (.aM 186 [.t 68,.t 69] [(1000,1000)]),oM 67 70,oJ 71 67 0,oJ 72 67 1,oJ 73 67 2,oM 14 71,oM 15 72,oM 16 73]
 (cR [oL 74 2 3,oM 75 14,oX 76 .add (kI 3506716800) (.t 75),oC 77 176 [.t 76],oC 78 174 [.t 74,.t 77],oC 79 162 [kI 0],oC 80 162 [kI 1],oP 2 4 78,oP 2 5 79,oP 2 6 80,oI 7 0]
 .ret))))))))⟩}).1
theorem uU.aA:Ck Tryz.f136 uU.c:=cK
theorem uU.ent:EnN 136:=eN Tryz.func136
def Bu.c:SF:=(⟨_,by dsimp⟩:{c:SF//c=⟨12,[.t 2],
 (cR [oG 2 (.mv kF)]
 (cR [oM 3 0,oG 4 (.gW true (.t 3)),oM 5 4,⟨some 6,.mv (.t 0),some (5,true)⟩,⟨some 7,.cB (.t 6),some (5,true)⟩,⟨some 8,.aI 1 (.t 7),some (5,true)⟩,⟨some 9,.load false 1 (.t 8) (some 1001),some (5,true)⟩,⟨some 10,.gW true (.t 9),some (5,true)⟩,oG 11 (.pick (.t 5) (.t 10) kF),oM 2 11]
 .ret))⟩}).1
theorem Bu.aA:Ck Tryz.f138 Bu.c:=cK
theorem Bu.ent:EnN 138:=eN Tryz.func138
def jN.l1:SC:=
 (.forget [7,8] (.seq (.region [⟨some 31,.bin .lss (.t 30) (.t 29),none⟩])
 (.seq (.cond (.t 31)
 .skip
 (.exit 1))
 (.seq (.block 2
 (.seq (.region [⟨some 32,.idx 14 (.t 28) (.t 30),none⟩,⟨some 33,.load true 14 (.t 32) none,none⟩,⟨some 7,.alloc [.v (.int .i64 0),.v (.int .i64 0),.v (.int .u64 0),.v (.int .i64 0),.v (.int .u64 0),.v (.int .i64 0),.v (.int .u64 0),.v (.int .i64 0),.v (.int .u64 0),.v (.int .i64 0),.v (.int .u64 0),.v (.int .i64 0),.v (.int .u64 0),.v (.int .i64 0)],none⟩,⟨none,.store 14 (.t 7) (.t 33) 7,none⟩])
 (.seq (.seq (.region [⟨some 34,.aI 0 (.t 3),none⟩,⟨some 35,.load false 1 (.t 34) (some 3),none⟩,⟨some 36,.aI 13 (.t 7),none⟩,⟨some 37,.load false 1 (.t 36) (some 7),none⟩,⟨some 38,.bin .geq (.t 35) (.t 37),none⟩])
 (.cond (.t 38)
 (.exit 2)
 .skip))
 (.seq (.region [⟨some 39,.load true 14 (.t 7) (some 7),none⟩,⟨some 40,.load true 3 (.t 3) (some 3),none⟩,⟨some 41,.call 124 [(.t 40)],none⟩,⟨some 42,.call 122 [(.t 39),(.t 41)],none⟩,⟨some 8,.alloc [.v (.int .i64 0),.v (.int .u64 0)],none⟩,⟨none,.store 2 (.t 8) (.t 42) 8,none⟩])
 (.seq (.seq (.region [⟨some 43,.aI 1 (.t 3),none⟩,⟨some 44,.load false 1 (.t 43) (some 3),none⟩,⟨some 45,.bin .eql (.t 44) (.k (.int .i64 86400)),none⟩,⟨some 46,.mv (.t 45),none⟩,⟨some 47,.aI 0 (.t 3),some (46,true)⟩,⟨some 48,.load false 1 (.t 47) (some 3),some (46,true)⟩,⟨some 49,.aI 13 (.t 7),some (46,true)⟩,⟨some 50,.load false 1 (.t 49) (some 7),some (46,true)⟩,⟨some 51,.bin .sub (.t 50) (.k (.int .i64 1)),some (46,true)⟩,⟨some 52,.bin .neq (.t 48) (.t 51),some (46,true)⟩,⟨some 53,.pick (.t 46) (.t 52) (.k (.bool false)),none⟩,⟨some 54,.mv (.t 53),none⟩,⟨some 55,.load true 2 (.t 8) (some 8),some (54,false)⟩,⟨some 56,.aI 11 (.t 7),some (54,false)⟩,⟨some 57,.load true 2 (.t 56) (some 7),some (54,false)⟩,⟨some 58,.call 165 [(.t 55),(.t 57)],some (54,false)⟩,⟨some 59,.bin .geq (.t 58) (.k (.int .i64 0)),some (54,false)⟩,⟨some 60,.pick (.t 54) (.k (.bool true)) (.t 59),none⟩])
 (.cond (.t 60)
 (.seq (.region [⟨some 61,.build [.v (.int .i64 0),.v (.int .u64 0)] [],none⟩,⟨none,.store 2 (.t 4) (.t 61) 4,none⟩,⟨some 5,.mv (.k (.int .i64 6)),none⟩])
 .ret)
 .skip))
 (.seq (.region [⟨some 62,.load true 2 (.t 8) (some 8),none⟩,⟨none,.store 2 (.t 4) (.t 62) 4,none⟩,⟨some 5,.mv (.k (.int .i64 0)),none⟩])
 .ret))))))
 (.region [⟨some 63,.bin .add (.t 30) (.k (.int .i64 1)),none⟩,⟨some 30,.mv (.t 63),none⟩])))))
def jN.c:SF:=(⟨_,by dsimp⟩:{c:SF//c=⟨65,[.c 4 true 2,.t 5],
 (cR [oB 3 1,oA 4 [zI,zU],oI 5 0]
 (.scope (.seq (.block 0
 (cR [oM 10 0,oG 11 (.gW false (.t 10)),oM 9 11]
 (.cond (.t 9)
 (cR [oG 12 (.build [zI,zU] []),oP 2 4 12,oI 5 12]
 .ret)
 (cR [oL 14 3 3,oC 15 187 [.t 14],oG 16 (.not (.t 15)),oM 13 16]
 (.cond (.t 13)
 (cR [oG 17 (.build [zI,zU] []),oP 2 4 17,oI 5 1]
 .ret)
 (cR [oD 19 0 3,oS 20 1 19 3,oM 21 0,oC 22 188 [.t 21],oY 23 .lss 20 22,oM 18 23]
 (.cond (.t 18)
 (cR [oG 24 (.build [zI,zU] []),oP 2 4 24,oI 5 8]
 .ret)
 .skip)))))))
 (.seq .skip
 (.seq (cR [oM 25 0,oG 26 (.cB (.t 25)),oD 27 0 26,oG 28 (.load false 1 (.t 27) none),oG 29 (.len (.t 28)),oI 30 0]
 (.block 1
 (.loop jN.l1)))
 (cR [oG 64 (.build [zI,zU] []),oP 2 4 64,oI 5 9]
 .ret))))))⟩}).1
theorem jN.aA:Ck Tryz.f139 jN.c:=cK
theorem jN.ent:EnN 139:=eN Tryz.func139
def yX.c:SF:=(⟨_,by dsimp⟩:{c:SF//c=⟨34,[.c 4 true 2,.t 5],
 (cR [oB 3 1,oA 4 [zI,zU],oI 5 0]
 (.seq (cR [oM 9 0,oL 10 3 3,oG 11 (.aM 189 [.t 9,.t 10] [(1000,1000)]),oM 6 11]
 (cR [oM 12 6,oZ 13 .neq 12 0]
 (.cond (.t 13)
 (cR [oG 14 (.build [zI,zU] []),oM 15 6,oP 2 4 14,oM 5 15]
 .ret)
 .skip)))
 (cR [oM 17 0,oD 18 0 3,oS 19 1 18 3,oG 20 (.aM 177 [.t 17,.t 19] [(1000,1000)]),oM 16 20,oJ 21 16 0,oJ 22 16 1,oM 7 21,oM 8 22]
 (cR [oD 23 0 3,oS 24 1 23 3,oZ 25 .mul 24 86400,oD 26 1 3,oS 27 1 26 3,oY 28 .add 25 27,oM 29 7,oY 30 .add 28 29,oD 31 2 3,oS 32 1 31 3,oC 33 190 [.t 30,.t 32],oP 2 4 33,oI 5 0]
 .ret))))⟩}).1
theorem yX.aA:Ck Tryz.f140 yX.c:=cK
theorem yX.ent:EnN 140:=eN Tryz.func140
def rU.c:SF:=(⟨_,by dsimp⟩:{c:SF//c=⟨31,[.c 4 true 8,.t 5],
 (cR [oA 4 [zI,zI,zI,zW,zW,zW,zW,zW],oG 5 (.mv kF)]
 (cR [oM 9 0,oG 10 (.aM 193 [.t 9] [(1000,1000)]),oM 6 10]
 (cR [oM 12 0,oG 13 (.aM 194 [.t 12] [(1000,1000)]),oM 11 13,oJ 14 11 0,oJ 15 11 1,oM 7 14,oM 8 15]
 (cI [oM 16 6,oG 17 (.not (.t 16)),oM 18 17,⟨some 19,.mv (.t 8),some (18,false)⟩,⟨some 20,.not (.t 19),some (18,false)⟩,oG 21 (.pick (.t 18) kT (.t 20)),oM 22 21,⟨some 23,.mv (.t 0),some (22,false)⟩,⟨some 24,.aM 146 [.t 23] [(1000,1000)],some (22,false)⟩,⟨some 25,.not (.t 24),some (22,false)⟩,oG 26 (.pick (.t 22) kT (.t 25))] 26
 (cR [oG 27 (.build [zI,zI,zI,zW,zW,zW,zW,zW] []),oP 8 4 27,oG 5 (.mv kF)]
 .ret)
 (cR [oM 28 1,oM 29 7,oG 30 (.build [zI,zI,zI,zW,zW,zW,zW,zW] [(0,1,.t 28),(1,1,.t 29)]),oP 8 4 30,oG 5 (.mv kT)]
 .ret)))))⟩}).1
theorem rU.aA:Ck Tryz.f144 rU.c:=cK
theorem rU.ent:EnN 144:=eN Tryz.func144
def fM.l1:SC:=
 (.seq (.region [⟨some 11,.bin .lss (.t 10) (.k (.int .i64 5)),none⟩])
 (.seq (.cond (.t 11)
 .skip
 (.exit 0))
 (.seq (.block 1
 (.seq (.region [⟨some 12,.mv (.t 10),none⟩,⟨some 5,.mv (.t 12),none⟩])
 (.seq (.region [⟨some 13,.mv (.t 0),none⟩,⟨some 14,.aM 193 [(.t 13)] [(1000,1000)],none⟩,⟨some 6,.mv (.t 14),none⟩])
 (.seq (.region [⟨some 16,.mv (.t 0),none⟩,⟨some 17,.aM 195 [(.t 16)] [(1000,1000)],none⟩,⟨some 15,.mv (.t 17),none⟩,⟨some 18,.ext (.t 15) 0,none⟩,⟨some 19,.ext (.t 15) 1,none⟩,⟨some 7,.mv (.t 18),none⟩,⟨some 8,.mv (.t 19),none⟩])
 (.seq (.seq (.region [⟨some 20,.mv (.t 6),none⟩,⟨some 21,.not (.t 20),none⟩,⟨some 22,.mv (.t 21),none⟩,⟨some 23,.mv (.t 8),some (22,false)⟩,⟨some 24,.not (.t 23),some (22,false)⟩,⟨some 25,.pick (.t 22) (.k (.bool true)) (.t 24),none⟩])
 (.cond (.t 25)
 (.seq (.region [⟨some 26,.build [.v (.int .i64 0),.v (.int .i64 0),.v (.int .i64 0),.v (.int .u32 0),.v (.int .u32 0),.v (.int .u32 0),.v (.int .u32 0),.v (.int .u32 0)] [],none⟩,⟨none,.store 8 (.t 2) (.t 26) 2,none⟩,⟨some 3,.mv (.k (.bool false)),none⟩])
 .ret)
 .skip))
 (.region [⟨some 27,.mv (.t 5),none⟩,⟨some 28,.mv (.t 7),none⟩,⟨some 29,.aI 3 (.t 4),none⟩,⟨some 30,.dN 1 5 (.t 29) (.t 27),none⟩,⟨none,.store 1 (.t 30) (.t 28) 4,none⟩]))))))
 (.region [⟨some 31,.bin .add (.t 10) (.k (.int .i64 1)),none⟩,⟨some 10,.mv (.t 31),none⟩]))))
def fM.c:SF:=(⟨_,by dsimp⟩:{c:SF//c=⟨37,[.c 2 true 8,.t 3],
 (cR [oA 2 [zI,zI,zI,zW,zW,zW,zW,zW],oG 3 (.mv kF)]
 (cR [oG 9 (.build [zI,zI,zI,zW,zW,zW,zW,zW] [(0,1,kI 4)]),oA 4 [zI,zI,zI,zW,zW,zW,zW,zW],oP 8 4 9]
 (.seq (cR [oI 10 0]
 (.block 0
 (.loop fM.l1)))
 (cI [oM 32 0,oG 33 (.aM 146 [.t 32] [(1000,1000)]),oG 34 (.not (.t 33))] 34
 (cR [oG 35 (.build [zI,zI,zI,zW,zW,zW,zW,zW] []),oP 8 2 35,oG 3 (.mv kF)]
 .ret)
 (cR [oL 36 8 4,oP 8 2 36,oG 3 (.mv kT)]
 .ret)))))⟩}).1
theorem fM.aA:Ck Tryz.f145 fM.c:=cK
theorem fM.ent:EnN 145:=eN Tryz.func145
def Fc.c:SF:=(⟨_,by dsimp⟩:{c:SF//c=⟨10,[.t 2],
 (cR [oG 2 (.mv kF)]
 (cR [oM 3 0,oG 4 (.aM 193 [.t 3] [(1000,1000)])]
 (cR [oM 5 0,oG 6 (.cB (.t 5)),oD 7 0 6,oS 8 1 7 1000,oG 9 (.nL false (.t 8) (.k (.string ⟨#[]⟩))),oM 2 9]
 .ret)))⟩}).1
theorem Fc.aA:Ck Tryz.f146 Fc.c:=cK
theorem Fc.ent:EnN 146:=eN Tryz.func146
def lC.c:SF:=(⟨_,by dsimp⟩:{c:SF//c=⟨57,[.c 2 true 8,.t 3],
 (cR [oA 2 [zI,zI,zI,zW,zW,zW,zW,zW],oG 3 (.mv kF)]
 (cR [oM 11 0,oG 12 (.aM 194 [.t 11] [(1000,1000)]),oM 10 12,oJ 13 10 0,oJ 14 10 1,oM 4 13,oM 5 14]
 (cR [oM 15 0,oG 16 (.aM 193 [.t 15] [(1000,1000)]),oM 6 16]
 (cR [oM 18 0,oG 19 (.aM 194 [.t 18] [(1000,1000)]),oM 17 19,oJ 20 17 0,oJ 21 17 1,oM 7 20,oM 8 21]
 (cR [oM 22 0,oG 23 (.aM 193 [.t 22] [(1000,1000)]),oM 9 23]
 (cI [oM 24 5,oG 25 (.not (.t 24)),oM 26 25,⟨some 27,.mv (.t 6),some (26,false)⟩,⟨some 28,.not (.t 27),some (26,false)⟩,oG 29 (.pick (.t 26) kT (.t 28)),oM 30 29,⟨some 31,.mv (.t 8),some (30,false)⟩,⟨some 32,.not (.t 31),some (30,false)⟩,oG 33 (.pick (.t 30) kT (.t 32)),oM 34 33,⟨some 35,.mv (.t 0),some (34,false)⟩,⟨some 36,.cB (.t 35),some (34,false)⟩,⟨some 37,.aI 0 (.t 36),some (34,false)⟩,⟨some 38,.load false 1 (.t 37) (some 1000),some (34,false)⟩,⟨some 39,.nL true (.t 38) (.k (.string ⟨#[]⟩)),some (34,false)⟩,⟨some 40,.mv (.t 39),some (34,false)⟩,⟨some 41,.mv (.t 9),some (40,true)⟩,⟨some 42,.not (.t 41),some (40,true)⟩,⟨some 43,.mv (.t 42),some (40,true)⟩,⟨some 44,.mv (.t 0),some (43,false)⟩,⟨some 45,.cB (.t 44),some (43,false)⟩,⟨some 46,.aI 0 (.t 45),some (43,false)⟩,⟨some 47,.load false 1 (.t 46) (some 1000),some (43,false)⟩,⟨some 48,.nJ (.t 47) (kI 0),some (43,false)⟩,⟨some 49,.bin .neq (.t 48) (.k (.int .u8 35)),some (43,false)⟩,⟨some 50,.pick (.t 43) kT (.t 49),some (40,true)⟩,⟨some 51,.pick (.t 40) (.t 50) kF,some (34,false)⟩,oG 52 (.pick (.t 34) kT (.t 51))] 52
 (cR [oG 53 (.build [zI,zI,zI,zW,zW,zW,zW,zW] []),oP 8 2 53,oG 3 (.mv kF)]
 .ret)
 (cR [oM 54 4,oM 55 7,oG 56 (.build [zI,zI,zI,zW,zW,zW,zW,zW] [(0,1,kI 5),(1,1,.t 54),(2,1,.t 55)]),oP 8 2 56,oG 3 (.mv kT)]
 .ret)))))))⟩}).1
theorem lC.aA:Ck Tryz.f147 lC.c:=cK
theorem lC.ent:EnN 147:=eN Tryz.func147
def Ds.c:SF:=(⟨_,by dsimp⟩:{c:SF//c=⟨12,[.t 4],
 (cR [oG 4 (.mv kF)]
 (cR [oM 5 0,oZ 6 .geq 5 0,oM 7 6,⟨some 8,.mv (.t 0),some (7,true)⟩,⟨some 9,.mv (.t 1),some (7,true)⟩,⟨some 10,.bin .leq (.t 8) (.t 9),some (7,true)⟩,oG 11 (.pick (.t 7) (.t 10) kF),oM 4 11]
 .ret))⟩}).1
theorem Ds.aA:Ck Tryz.f148 Ds.c:=cK
theorem Ds.ent:EnN 148:=eN Tryz.func148
def Hq.c:SF:=(⟨_,by dsimp⟩:{c:SF//c=⟨2,[.c 0 true 5],
 (cR [oA 0 [zW,zW,zW,zW,zW]]
 (cR [oG 1 (.build [zW,zW,zW,zW,zW] [(0,1,(.k (.int .u32 1732584193))),(1,1,(.k (.int .u32 4023233417))),(2,1,(.k (.int .u32 2562383102))),(3,1,(.k (.int .u32 271733878))),(4,1,(.k (.int .u32 3285377520)))]),oP 5 0 1]
 .ret))⟩}).1
theorem Hq.aA:Ck Tryz.f149 Hq.c:=cK
theorem Hq.ent:EnN 149:=eN Tryz.func149
def jU.l1:SC:=
 (.seq (.seq (.region [⟨some 12,.mv (.t 3),none⟩,⟨some 13,.len (.t 12),none⟩,⟨some 14,.bin .rem (.t 13) (.k (.int .i64 64)),none⟩,⟨some 15,.bin .neq (.t 14) (.k (.int .i64 56)),none⟩])
 (.cond (.t 15)
 .skip
 (.exit 0)))
 (.block 1
 (.region [⟨some 16,.mv (.t 3),none⟩,⟨some 17,.fX ⟨5,1,some .u8⟩ [.v (.int .u8 0)] 1 [(0,1,(.k (.int .u8 0)))],none⟩,⟨some 18,.app ⟨5,1,some .u8⟩ (.t 16) (.t 17),none⟩,⟨some 3,.mv (.t 18),none⟩])))
def jU.l2:SC:=
 (.seq (.seq (.region [⟨some 23,.mv (.t 5),none⟩,⟨some 24,.bin .geq (.t 23) (.k (.int .i64 0)),none⟩])
 (.cond (.t 24)
 .skip
 (.exit 2)))
 (.seq (.block 3
 (.region [⟨some 27,.mv (.t 3),none⟩,⟨some 28,.mv (.t 4),none⟩,⟨some 29,.mv (.t 5),none⟩,⟨some 30,.bin .shr (.t 28) (.t 29),none⟩,⟨some 31,.cH .u8 (.t 30),none⟩,⟨some 32,.fX ⟨5,1,some .u8⟩ [.v (.int .u8 0)] 1 [(0,1,(.t 31))],none⟩,⟨some 33,.app ⟨5,1,some .u8⟩ (.t 27) (.t 32),none⟩,⟨some 3,.mv (.t 33),none⟩]))
 (.region [⟨some 25,.mv (.t 5),none⟩,⟨some 26,.bin .sub (.t 25) (.k (.int .i64 8)),none⟩,⟨some 5,.mv (.t 26),none⟩])))
def jU.c:SF:=(⟨_,by dsimp⟩:{c:SF//c=⟨35,[.t 2],
 (cR [oG 2 (.mv (.nil .u8))]
 (cR [oG 6 (.fX ⟨5,1,some .u8⟩ [] 0 []),oM 7 0,oG 8 (.app ⟨5,1,some .u8⟩ (.t 6) (.t 7)),oM 3 8]
 (cR [oM 9 3,oG 10 (.fX ⟨5,1,some .u8⟩ [.v (.int .u8 0)] 1 [(0,1,(.k (.int .u8 128)))]),oG 11 (.app ⟨5,1,some .u8⟩ (.t 9) (.t 10)),oM 3 11]
 (.seq (.block 0
 (.loop jU.l1))
 (cR [oM 19 0,oG 20 (.len (.t 19)),oG 21 (.cH .u64 (.t 20)),oX 22 .mul (.t 21) (kU 8),oM 4 22]
 (.seq (cR [oI 5 56]
 (.block 2
 (.loop jU.l2)))
 (cR [oM 34 3,oM 2 34]
 .ret)))))))⟩}).1
theorem jU.aA:Ck Tryz.f150 jU.c:=cK
theorem jU.ent:EnN 150:=eN Tryz.func150
def nE.l1:SC:=
 (.seq (.region [⟨some 17,.bin .lss (.t 16) (.k (.int .i64 80)),none⟩])
 (.seq (.cond (.t 17)
 .skip
 (.exit 0))
 (.seq (.block 1
 (.seq (.region [⟨some 18,.mv (.t 16),none⟩,⟨some 19,.Be 80 (.t 15) (.t 16),none⟩,⟨some 6,.mv (.t 18),none⟩,⟨some 7,.mv (.t 19),none⟩])
 (.seq (.region [⟨some 20,.dN 1 5 (.t 5) (.k (.int .i64 0)),none⟩,⟨some 21,.load false 1 (.t 20) (some 5),none⟩,⟨some 22,.call 197 [(.t 21),(.k (.int .i64 5))],none⟩,⟨some 23,.mv (.t 6),none⟩,⟨some 24,.dN 1 5 (.t 5) (.k (.int .i64 1)),none⟩,⟨some 25,.load false 1 (.t 24) (some 5),none⟩,⟨some 26,.dN 1 5 (.t 5) (.k (.int .i64 2)),none⟩,⟨some 27,.load false 1 (.t 26) (some 5),none⟩,⟨some 28,.dN 1 5 (.t 5) (.k (.int .i64 3)),none⟩,⟨some 29,.load false 1 (.t 28) (some 5),none⟩,⟨some 30,.call 198 [(.t 23),(.t 25),(.t 27),(.t 29)],none⟩,⟨some 31,.bin .add (.t 22) (.t 30),none⟩,⟨some 32,.dN 1 5 (.t 5) (.k (.int .i64 4)),none⟩,⟨some 33,.load false 1 (.t 32) (some 5),none⟩,⟨some 34,.bin .add (.t 31) (.t 33),none⟩,⟨some 35,.mv (.t 6),none⟩,⟨some 36,.call 199 [(.t 35)],none⟩,⟨some 37,.bin .add (.t 34) (.t 36),none⟩,⟨some 38,.mv (.t 7),none⟩,⟨some 39,.bin .add (.t 37) (.t 38),none⟩,⟨some 8,.mv (.t 39),none⟩])
 (.region [⟨some 40,.mv (.t 8),none⟩,⟨some 41,.dN 1 5 (.t 5) (.k (.int .i64 0)),none⟩,⟨some 42,.load false 1 (.t 41) (some 5),none⟩,⟨some 43,.dN 1 5 (.t 5) (.k (.int .i64 1)),none⟩,⟨some 44,.load false 1 (.t 43) (some 5),none⟩,⟨some 45,.call 197 [(.t 44),(.k (.int .i64 30))],none⟩,⟨some 46,.dN 1 5 (.t 5) (.k (.int .i64 2)),none⟩,⟨some 47,.load false 1 (.t 46) (some 5),none⟩,⟨some 48,.dN 1 5 (.t 5) (.k (.int .i64 3)),none⟩,⟨some 49,.load false 1 (.t 48) (some 5),none⟩,⟨some 50,.build [.v (.int .u32 0),.v (.int .u32 0),.v (.int .u32 0),.v (.int .u32 0),.v (.int .u32 0)] [(0,1,(.t 40)),(1,1,(.t 42)),(2,1,(.t 45)),(3,1,(.t 47)),(4,1,(.t 49))],none⟩,⟨none,.store 5 (.t 5) (.t 50) 5,none⟩]))))
 (.region [⟨some 51,.bin .add (.t 16) (.k (.int .i64 1)),none⟩,⟨some 16,.mv (.t 51),none⟩]))))
def nE.l2:SC:=
 (.seq (.region [⟨some 53,.bin .lss (.t 52) (.k (.int .i64 5)),none⟩])
 (.seq (.cond (.t 53)
 .skip
 (.exit 2))
 (.seq (.block 3
 (.seq (.region [⟨some 54,.mv (.t 52),none⟩,⟨some 9,.mv (.t 54),none⟩])
 (.region [⟨some 55,.mv (.t 0),none⟩,⟨some 56,.mv (.t 9),none⟩,⟨some 57,.cB (.t 55),none⟩,⟨some 58,.dN 1 5 (.t 57) (.t 56),none⟩,⟨some 59,.load false 1 (.t 58) (some 1000),none⟩,⟨some 60,.mv (.t 9),none⟩,⟨some 61,.dN 1 5 (.t 5) (.t 60),none⟩,⟨some 62,.load false 1 (.t 61) (some 5),none⟩,⟨some 63,.bin .add (.t 59) (.t 62),none⟩,⟨some 64,.cB (.t 55),none⟩,⟨some 65,.dN 1 5 (.t 64) (.t 56),none⟩,⟨none,.store 1 (.t 65) (.t 63) 1000,none⟩])))
 (.region [⟨some 66,.bin .add (.t 52) (.k (.int .i64 1)),none⟩,⟨some 52,.mv (.t 66),none⟩]))))
def nE.c:SF:=(⟨_,by dsimp⟩:{c:SF//c=⟨67,[],
 (cR [oM 10 1,oC 11 196 [.t 10],oM 12 0,oG 13 (.cB (.t 12)),oV 14 5 13 1000,oA 4 [zW,zW,zW,zW,zW,zW,zW,zW,zW,zW,zW,zW,zW,zW,zW,zW,zW,zW,zW,zW,zW,zW,zW,zW,zW,zW,zW,zW,zW,zW,zW,zW,zW,zW,zW,zW,zW,zW,zW,zW,zW,zW,zW,zW,zW,zW,zW,zW,zW,zW,zW,zW,zW,zW,zW,zW,zW,zW,zW,zW,zW,zW,zW,zW,zW,zW,zW,zW,zW,zW,zW,zW,zW,zW,zW,zW,zW,zW,zW,zW],oA 5 [zW,zW,zW,zW,zW],oP 80 4 11,oP 5 5 14]
 (.seq (cR [oL 15 80 4,oI 16 0]
 (.block 0
 (.loop nE.l1)))
 (cR [oI 52 0]
 (.block 2
 (.loop nE.l2)))))⟩}).1
theorem nE.aA:Ck Tryz.f151 nE.c:=cK
theorem nE.ent:EnN 151:=eN Tryz.func151
def Ac.c:SF:=(⟨_,by dsimp⟩:{c:SF//c=⟨12,[.t 2],
 (cR [oB 1 0,oG 2 (.mv kF)]
 (cR [oL 6 3 1,oC 7 117 [.t 6],oM 5 7,oJ 8 5 0,oJ 9 5 1,oM 3 8,oM 4 9]
 (cR [oM 10 4,oZ 11 .eql 10 0,oM 2 11]
 .ret)))⟩}).1
theorem Ac.aA:Ck Tryz.f152 Ac.c:=cK
theorem Ac.ent:EnN 152:=eN Tryz.func152
def qP.l1:SC:=
 (.forget [5] (.seq (.region [⟨some 17,.bin .lss (.t 16) (.t 15),none⟩])
 (.seq (.cond (.t 17)
 .skip
 (.exit 0))
 (.seq (.block 1
 (.seq (.region [⟨some 18,.idx 2 (.t 14) (.t 16),none⟩,⟨some 19,.load true 2 (.t 18) none,none⟩,⟨some 5,.alloc [.v (.int .i64 0),.v (.int .i64 0)],none⟩,⟨none,.store 2 (.t 5) (.t 19) 5,none⟩])
 (.region [⟨some 20,.mv (.t 3),none⟩,⟨some 21,.aI 0 (.t 5),none⟩,⟨some 22,.load false 1 (.t 21) (some 5),none⟩,⟨some 23,.call 203 [(.t 22)],none⟩,⟨some 24,.aI 1 (.t 5),none⟩,⟨some 25,.load false 1 (.t 24) (some 5),none⟩,⟨some 26,.call 203 [(.t 25)],none⟩,⟨some 27,.fX ⟨9,1,none⟩ [.v (.string ⟨#[]⟩),.v (.string ⟨#[]⟩)] 2 [(0,1,(.t 23)),(1,1,(.t 26))],none⟩,⟨some 28,.app ⟨9,1,none⟩ (.t 20) (.t 27),none⟩,⟨some 3,.mv (.t 28),none⟩])))
 (.region [⟨some 29,.bin .add (.t 16) (.k (.int .i64 1)),none⟩,⟨some 16,.mv (.t 29),none⟩])))))
def qP.c:SF:=(⟨_,by dsimp⟩:{c:SF//c=⟨31,[.t 2],
 (cR [oB 1 0,oG 2 (.mv (.nil .u8))]
 (cR [oD 6 0 1,oS 7 1 6 1,oC 8 203 [.t 7],oD 9 1 1,oS 10 1 9 1,oC 11 203 [.t 10],oG 12 (.fX ⟨9,1,none⟩ [.v (.string ⟨#[]⟩),.v (.string ⟨#[]⟩)] 2 [(0,1,.t 8),(1,1,.t 11)]),oM 3 12]
 (.seq (cR [oD 13 2 1,oS 14 1 13 1,oG 15 (.len (.t 14)),oI 16 0]
 (.block 0
 (.loop qP.l1)))
 (cR [oM 30 3,oM 2 30]
 .ret))))⟩}).1
theorem qP.aA:Ck Tryz.f154 qP.c:=cK
theorem qP.ent:EnN 154:=eN Tryz.func154
def Cc.c:SF:=(⟨_,by dsimp⟩:{c:SF//c=⟨15,[.t 6],
 (cR [oG 6 (.mv kF)]
 (cR [oM 7 0,oM 8 1,oY 9 .geq 7 8,oM 10 9,⟨some 11,.mv (.t 0),some (10,true)⟩,⟨some 12,.mv (.t 2),some (10,true)⟩,⟨some 13,.bin .leq (.t 11) (.t 12),some (10,true)⟩,oG 14 (.pick (.t 10) (.t 13) kF),oM 6 14]
 .ret))⟩}).1
theorem Cc.aA:Ck Tryz.f157 Cc.c:=cK
theorem Cc.ent:EnN 157:=eN Tryz.func157
def Ep.c:SF:=(⟨_,by dsimp⟩:{c:SF//c=⟨16,[.c 4 true 2],
 (cR [oA 4 [zI,zU]]
 (cR [oM 8 0,oC 9 162 [.t 8],oM 10 1,oC 11 162 [.t 10],oC 12 206 [.t 9,.t 11],oM 7 12,oJ 13 7 0,oJ 14 7 1,oA 5 [zI,zU],oP 2 5 13,oM 6 14]
 (cR [oL 15 2 5,oP 2 4 15]
 .ret)))⟩}).1
theorem Ep.aA:Ck Tryz.f158 Ep.c:=cK
theorem Ep.ent:EnN 158:=eN Tryz.func158
def yP.c:SF:=(⟨_,by dsimp⟩:{c:SF//c=⟨14,[.c 4 true 2],
 (cR [oB 2 0,oB 3 1,oA 4 [zI,zU]]
 (cR [oL 8 2 2,oL 9 2 3,oC 10 64 [.t 8,.t 9],oM 7 10,oJ 11 7 0,oJ 12 7 1,oA 5 [zI,zU],oP 2 5 11,oM 6 12]
 (cR [oL 13 2 5,oP 2 4 13]
 .ret)))⟩}).1
theorem yP.aA:Ck Tryz.f159 yP.c:=cK
theorem yP.ent:EnN 159:=eN Tryz.func159
def yN.c:SF:=(⟨_,by dsimp⟩:{c:SF//c=⟨14,[.c 4 true 2],
 (cR [oB 2 0,oB 3 1,oA 4 [zI,zU]]
 (cR [oL 8 2 2,oL 9 2 3,oC 10 66 [.t 8,.t 9],oM 7 10,oJ 11 7 0,oJ 12 7 1,oA 5 [zI,zU],oP 2 5 11,oM 6 12]
 (cR [oL 13 2 5,oP 2 4 13]
 .ret)))⟩}).1
theorem yN.aA:Ck Tryz.f161 yN.c:=cK
theorem yN.ent:EnN 161:=eN Tryz.func161
def xB.c:SF:=(⟨_,by dsimp⟩:{c:SF//c=⟨9,[.t 4],
 (cR [oG 4 (.mv kF)]
 (cR [oM 5 0,oM 6 1,oC 7 213 [.t 5,.t 6],oZ 8 .geq 7 0,oM 4 8]
 .ret))⟩}).1
theorem xB.aA:Ck Tryz.f163 xB.c:=cK
theorem xB.ent:EnN 163:=eN Tryz.func163
def xM.c:SF:=(⟨_,by dsimp⟩:{c:SF//c=⟨29,[.t 2],
 (cR [oB 1 0,oG 2 (.mv kF)]
 (cR [oL 5 14 1,oD 6 13 1,oS 7 1 6 1,oZ 8 .sub 7 1,oC 9 123 [.t 8],oC 10 122 [.t 5,.t 9],oA 3 [zI,zU],oP 2 3 10]
 (cR [oL 11 14 1,oD 12 13 1,oS 13 1 12 1,oG 14 (.build [zI,zI,zI] [(0,1,.t 13),(1,1,kI 1)]),oC 15 124 [.t 14],oC 16 122 [.t 11,.t 15],oA 4 [zI,zU],oP 2 4 16]
 (cR [oD 17 11 1,oV 18 2 17 1,oL 19 2 3,oC 20 165 [.t 18,.t 19],oZ 21 .leq 20 0,oM 22 21,⟨some 23,.aI 11 (.t 1),some (22,false)⟩,⟨some 24,.load true 2 (.t 23) (some 1),some (22,false)⟩,⟨some 25,.load true 2 (.t 4) (some 4),some (22,false)⟩,⟨some 26,.call 165 [.t 24,.t 25],some (22,false)⟩,⟨some 27,.bin .gtr (.t 26) (kI 0),some (22,false)⟩,oG 28 (.pick (.t 22) kT (.t 27)),oM 2 28]
 .ret))))⟩}).1
theorem xM.aA:Ck Tryz.f164 xM.c:=cK
theorem xM.ent:EnN 164:=eN Tryz.func164
def nR.c:SF:=(⟨_,by dsimp⟩:{c:SF//c=⟨65,[.c 4 true 3,.c 5 true 3,.t 6,.t 7],
 (cR [oB 3 1,oA 4 [zI,zI,zI],oA 5 [zI,zI,zI],oI 6 0,oI 7 0]
 (cI [oM 11 0,oG 12 (.gW false (.t 11))] 12
 (cR [oL 13 3 4,oL 14 3 5,oP 3 4 13,oP 3 5 14,oI 6 0,oI 7 12]
 .ret)
 (cR [oL 16 2 3,oC 17 225 [.t 16],oM 15 17,oJ 18 15 0,oJ 19 15 1,oP 3 5 18,oM 7 19]
 (cI [oM 20 7,oZ 21 .neq 20 0] 21
 (cR [oG 22 (.build [zI,zI,zI] []),oG 23 (.build [zI,zI,zI] []),oM 24 7,oP 3 4 22,oP 3 5 23,oI 6 0,oM 7 24]
 .ret)
 (cR [oD 25 0 5,oS 26 1 25 5,oZ 27 .sub 26 1,oD 28 2 5,oS 29 1 28 5,oG 30 (.build [zI,zI,zI] [(0,1,.t 27),(1,1,kI 86400),(2,1,.t 29)]),oP 3 4 30]
 (cR [oD 31 1 5,oS 32 1 31 5,oZ 33 .eql 32 0,oM 34 33,⟨some 35,.mv (.t 0),some (34,true)⟩,⟨some 36,.load true 3 (.t 4) (some 4),some (34,true)⟩,⟨some 37,.aM 226 [.t 35,.t 36] [(1000,1000),(1001,1001)],some (34,true)⟩,oG 38 (.pick (.t 34) (.t 37) kF),oM 8 38]
 (.seq (.block 0
 (cR [oM 40 8,oM 41 40,⟨some 42,.mv (.t 0),some (41,true)⟩,⟨some 43,.load true 3 (.t 5) (some 5),some (41,true)⟩,⟨some 44,.aM 226 [.t 42,.t 43] [(1000,1000),(1001,1001)],some (41,true)⟩,oG 45 (.pick (.t 41) (.t 44) kF),oM 39 45]
 (.cond (.t 39)
 (cR [oL 46 3 4,oL 47 3 5,oP 3 4 46,oP 3 5 47,oI 6 2,oI 7 0]
 .ret)
 (cR [oM 49 8,oM 48 49]
 (.cond (.t 48)
 (cR [oL 50 3 4,oL 51 3 4,oP 3 4 50,oP 3 5 51,oI 6 1,oI 7 0]
 .ret)
 .skip)))))
 (.seq (cR [oM 53 0,oL 54 3 5,oG 55 (.aM 65 [.t 53,.t 54,kT] [(1000,1000),(1001,1001)]),oM 52 55,oJ 56 52 0,oJ 57 52 1,oA 9 [zI,zU],oP 2 9 56,oM 10 57]
 (cR [oM 58 10,oZ 59 .neq 58 0]
 (.cond (.t 59)
 (cR [oG 60 (.build [zI,zI,zI] []),oG 61 (.build [zI,zI,zI] []),oM 62 10,oP 3 4 60,oP 3 5 61,oI 6 0,oM 7 62]
 .ret)
 .skip)))
 (cR [oL 63 3 5,oL 64 3 5,oP 3 4 63,oP 3 5 64,oI 6 1,oI 7 0]
 .ret)))))))))⟩}).1
theorem nR.aA:Ck Tryz.f172 nR.c:=cK
theorem nR.ent:EnN 172:=eN Tryz.func172
def Dz.c:SF:=(⟨_,by dsimp⟩:{c:SF//c=⟨13,[.c 2 true 2],
 (cR [oA 2 [zI,zU]]
 (cR [oM 6 0,oC 7 162 [.t 6],oC 8 162 [kI 0xde0b6b3a7640000],oC 9 206 [.t 7,.t 8],oM 5 9,oJ 10 5 0,oJ 11 5 1,oA 3 [zI,zU],oP 2 3 10,oM 4 11]
 (cR [oL 12 2 3,oP 2 2 12]
 .ret)))⟩}).1
theorem Dz.aA:Ck Tryz.f173 Dz.c:=cK
theorem Dz.ent:EnN 173:=eN Tryz.func173
def zX.c:SF:=(⟨_,by dsimp⟩:{c:SF//c=⟨14,[.c 4 true 2],
 (cR [oB 2 0,oB 3 1,oA 4 [zI,zU]]
 (cR [oL 8 2 2,oL 9 2 3,oC 10 66 [.t 8,.t 9],oM 7 10,oJ 11 7 0,oJ 12 7 1,oA 5 [zI,zU],oP 2 5 11,oM 6 12]
 (cR [oL 13 2 5,oP 2 4 13]
 .ret)))⟩}).1
theorem zX.aA:Ck Tryz.f174 zX.c:=cK
theorem zX.ent:EnN 174:=eN Tryz.func174
def Es.c:SF:=(⟨_,by dsimp⟩:{c:SF//c=⟨18,[.c 2 true 2],
 (cR [oA 2 [zI,zU]]
 (cR [oM 6 0,oM 7 0,oG 8 (.aM 85 [.t 7] [(1000,1000)]),oG 9 (.aM 177 [.t 6,.t 8] [(1000,1000)]),oM 5 9,oJ 10 5 0,oJ 11 5 1,oM 3 10,oM 4 11]
 (cR [oM 12 0,oG 13 (.aM 85 [.t 12] [(1000,1000)]),oZ 14 .mul 13 86400,oM 15 3,oY 16 .add 14 15,oC 17 176 [.t 16],oP 2 2 17]
 .ret)))⟩}).1
theorem Es.aA:Ck Tryz.f175 Es.c:=cK
theorem Es.ent:EnN 175:=eN Tryz.func175
def Cg.c:SF:=(⟨_,by dsimp⟩:{c:SF//c=⟨13,[.c 2 true 2],
 (cR [oA 2 [zI,zU]]
 (cR [oM 6 0,oC 7 162 [.t 6],oC 8 162 [kI 0xde0b6b3a7640000],oC 9 206 [.t 7,.t 8],oM 5 9,oJ 10 5 0,oJ 11 5 1,oA 3 [zI,zU],oP 2 3 10,oM 4 11]
 (cR [oL 12 2 3,oP 2 2 12]
 .ret)))⟩}).1
theorem Cg.aA:Ck Tryz.f176 Cg.c:=cK
theorem Cg.ent:EnN 176:=eN Tryz.func176
def Aj.c:SF:=(⟨_,by dsimp⟩:{c:SF//c=⟨25,[.t 4,.t 5],
 (cR [oB 3 1,oI 4 0,oI 5 0]
 (cI [oM 8 0,oG 9 (.aM 227 [.t 8] [(1000,1000)]),oG 10 (.not (.t 9))] 10
 (cR [oI 4 0,oI 5 12]
 .ret)
 (cR [oM 11 0,oG 12 (.aM 119 [.t 11] [(1000,1000)]),oA 6 [.nil .u8],oP 1 6 12]
 (cR [oF 13 1 6,oG 14 (.len (.t 13)),oG 15 (.vZ 229 [.t 6,.t 3]),oG 16 (.lO 228 [.t 14,.t 15]),oM 7 16]
 (cI [oM 17 7,oZ 18 .eql 17 0] 18
 (cR [oI 4 0,oI 5 8]
 .ret)
 (cR [oF 19 1 6,oM 20 7,oZ 21 .sub 20 1,oG 22 (.idx 3 (.t 19) (.t 21)),oD 23 1 22,oG 24 (.load false 1 (.t 23) none),oM 4 24,oI 5 0]
 .ret))))))⟩}).1
theorem Aj.aA:Ck Tryz.f177 Aj.c:=cK
theorem Aj.ent:EnN 177:=eN Tryz.func177
def nD.l1:SC:=
 (.seq (.region [⟨some 15,.bin .lss (.t 14) (.t 13),none⟩])
 (.seq (.cond (.t 15)
 .skip
 (.exit 0))
 (.seq (.block 1
 (.seq (.region [⟨some 16,.mv (.t 14),none⟩,⟨some 5,.mv (.t 16),none⟩])
 (.seq (.seq (.region [⟨some 17,.mv (.t 5),none⟩,⟨some 18,.bin .eql (.t 17) (.k (.int .i64 0)),none⟩])
 (.cond (.t 18)
 (.exit 1)
 .skip))
 (.seq (.region [⟨some 19,.mv (.t 4),none⟩,⟨some 20,.mv (.t 5),none⟩,⟨some 21,.idx 2 (.t 19) (.t 20),none⟩,⟨some 22,.aI 0 (.t 21),none⟩,⟨some 23,.load false 1 (.t 22) none,none⟩,⟨some 24,.bin .add (.k (.int .i64 1297728000)) (.t 23),none⟩,⟨some 25,.bin .sub (.t 24) (.k (.int .i64 43200)),none⟩,⟨some 6,.mv (.t 25),none⟩])
 (.seq (.region [⟨some 26,.mv (.t 4),none⟩,⟨some 27,.mv (.t 5),none⟩,⟨some 28,.bin .sub (.t 27) (.k (.int .i64 1)),none⟩,⟨some 29,.idx 2 (.t 26) (.t 28),none⟩,⟨some 30,.aI 1 (.t 29),none⟩,⟨some 31,.load false 1 (.t 30) none,none⟩,⟨some 32,.mv (.t 4),none⟩,⟨some 33,.mv (.t 5),none⟩,⟨some 34,.idx 2 (.t 32) (.t 33),none⟩,⟨some 35,.aI 1 (.t 34),none⟩,⟨some 36,.load false 1 (.t 35) none,none⟩,⟨some 7,.mv (.t 31),none⟩,⟨some 8,.mv (.t 36),none⟩])
 (.region [⟨some 37,.mv (.t 3),none⟩,⟨some 38,.mv (.t 6),none⟩,⟨some 39,.mv (.t 7),none⟩,⟨some 40,.bin .add (.t 38) (.t 39),none⟩,⟨some 41,.call 176 [(.t 40)],none⟩,⟨some 42,.mv (.t 6),none⟩,⟨some 43,.bin .add (.t 42) (.k (.int .i64 86400)),none⟩,⟨some 44,.mv (.t 8),none⟩,⟨some 45,.bin .add (.t 43) (.t 44),none⟩,⟨some 46,.call 176 [(.t 45)],none⟩,⟨some 47,.mv (.t 6),none⟩,⟨some 48,.bin .sub (.t 47) (.k (.int .i64 3506716800)),none⟩,⟨some 49,.call 176 [(.t 48)],none⟩,⟨some 50,.mv (.t 8),none⟩,⟨some 51,.mv (.t 7),none⟩,⟨some 52,.bin .sub (.t 50) (.t 51),none⟩,⟨some 53,.build [.v (.int .i64 0),.v (.int .u64 0),.v (.int .i64 0),.v (.int .u64 0),.v (.int .i64 0),.v (.int .u64 0),.v (.int .i64 0)] [(0,2,(.t 41)),(2,2,(.t 46)),(4,2,(.t 49)),(6,1,(.t 52))],none⟩,⟨some 54,.fX ⟨271,7,none⟩ [.v (.int .i64 0),.v (.int .u64 0),.v (.int .i64 0),.v (.int .u64 0),.v (.int .i64 0),.v (.int .u64 0),.v (.int .i64 0)] 1 [(0,7,(.t 53))],none⟩,⟨some 55,.app ⟨271,7,none⟩ (.t 37) (.t 54),none⟩,⟨some 3,.mv (.t 55),none⟩]))))))
 (.region [⟨some 56,.bin .add (.t 14) (.k (.int .i64 1)),none⟩,⟨some 14,.mv (.t 56),none⟩]))))
def nD.c:SF:=(⟨_,by dsimp⟩:{c:SF//c=⟨58,[.t 2],
 (cR [oG 2 (.mv (.nil .u8))]
 (cR [oG 3 (.mv (.nil .u8))]
 (cR [oM 9 0,oG 10 (.aM 230 [.t 9] [(1000,1000)]),oG 11 (.part false 2 1 (.t 10)),oM 4 11]
 (.seq (cR [oM 12 4,oG 13 (.len (.t 12)),oI 14 0]
 (.block 0
 (.loop nD.l1)))
 (cR [oM 57 3,oM 2 57]
 .ret)))))⟩}).1
theorem nD.aA:Ck Tryz.f178 nD.c:=cK
theorem nD.ent:EnN 178:=eN Tryz.func178
def Du.c:SF:=(⟨_,by dsimp⟩:{c:SF//c=⟨7,[.c 2 true 2],
 (cR [oB 1 0,oA 2 [zI,zU]]
 (cR [oD 3 6 1,oS 4 1 3 1,oX 5 .add (kI 86400) (.t 4),oC 6 162 [.t 5],oP 2 2 6]
 .ret))⟩}).1
theorem Du.aA:Ck Tryz.f179 Du.c:=cK
theorem Du.ent:EnN 179:=eN Tryz.func179
def Bd.c:SF:=(⟨_,by dsimp⟩:{c:SF//c=⟨14,[.c 4 true 2],
 (cR [oB 2 0,oB 3 1,oA 4 [zI,zU]]
 (cR [oL 8 2 2,oL 9 2 3,oC 10 64 [.t 8,.t 9],oM 7 10,oJ 11 7 0,oJ 12 7 1,oA 5 [zI,zU],oP 2 5 11,oM 6 12]
 (cR [oL 13 2 5,oP 2 4 13]
 .ret)))⟩}).1
theorem Bd.aA:Ck Tryz.f180 Bd.c:=cK
theorem Bd.ent:EnN 180:=eN Tryz.func180
def nS.c:SF:=(⟨_,by dsimp⟩:{c:SF//c=⟨85,[.c 4 true 3,.t 5],
 (cR [oB 3 1,oA 4 [zI,zI,zI],oI 5 0]
 (cI [oM 17 0,oG 18 (.gW false (.t 17))] 18
 (cR [oG 19 (.build [zI,zI,zI] []),oP 3 4 19,oI 5 12]
 .ret)
 (cR [oL 21 2 3,oC 22 162 [kI 0xde0b6b3a7640000],oC 23 222 [.t 21,.t 22],oM 20 23,oJ 24 20 0,oJ 25 20 1,oJ 26 20 2,oA 6 [zI,zU],oA 7 [zI,zU],oP 2 6 24,oP 2 7 25,oM 8 26]
 (cR [oL 28 2 6,oC 29 223 [.t 28],oM 27 29,oJ 30 27 0,oJ 31 27 1,oM 9 30,oM 10 31]
 (.seq (.block 0
 (cR [oM 33 10,oZ 34 .neq 33 0,oM 35 34,⟨some 36,.aI 0 (.t 3),some (35,true)⟩,⟨some 37,.load false 1 (.t 36) (some 3),some (35,true)⟩,⟨some 38,.bin .lss (.t 37) (kI 0),some (35,true)⟩,oG 39 (.pick (.t 35) (.t 38) kF),oM 32 39]
 (.cond (.t 32)
 (cR [oG 40 (.build [zI,zI,zI] []),oP 3 4 40,oI 5 8]
 .ret)
 (cR [oM 42 10,oZ 43 .neq 42 0,oM 41 43]
 (.cond (.t 41)
 (cR [oG 44 (.build [zI,zI,zI] []),oP 3 4 44,oI 5 2]
 .ret)
 .skip)))))
 (cR [oM 46 0,oM 47 9,oG 48 (.aM 186 [.t 46,.t 47] [(1000,1000)]),oM 45 48,oJ 49 45 0,oJ 50 45 1,oJ 51 45 2,oM 11 49,oM 12 50,oM 10 51]
 (cI [oM 52 10,oZ 53 .neq 52 0] 53
 (cR [oG 54 (.build [zI,zI,zI] []),oM 55 10,oP 3 4 54,oM 5 55]
 .ret)
 (cR [oM 56 9,oM 57 11,oY 58 .sub 56 57,oM 9 58]
 (cR [oM 59 9,oC 60 231 [.t 59,kI 86400],oM 13 60]
 (cR [oM 61 9,oM 62 13,oZ 63 .mul 62 86400,oY 64 .sub 61 63,oM 14 64]
 (cI [oM 65 13,oM 66 12,oY 67 .geq 65 66] 67
 (.region [oM 68 12,oZ 69 .sub 68 1,oM 70 14,oZ 71 .add 70 86400,oM 13 69,oM 14 71])
 (cI [oM 72 13,oC 73 232 [.t 72],oG 74 (.not (.t 73))] 74
 (cR [oG 75 (.build [zI,zI,zI] []),oP 3 4 75,oI 5 2]
 .ret)
 (cR [oL 77 2 7,oC 78 223 [.t 77],oM 76 78,oJ 79 76 0,oJ 80 76 1,oM 15 79,oM 16 80]
 (cR [oM 81 13,oM 82 14,oM 83 15,oG 84 (.build [zI,zI,zI] [(0,1,.t 81),(1,1,.t 82),(2,1,.t 83)]),oP 3 4 84,oI 5 0]
 .ret))))))))))))))⟩}).1
theorem nS.aA:Ck Tryz.f181 nS.c:=cK
theorem nS.ent:EnN 181:=eN Tryz.func181
def nV.l1:SC:=
 (.forget [8] (.seq (.region [⟨some 33,.bin .lss (.t 32) (.t 31),none⟩])
 (.seq (.cond (.t 33)
 .skip
 (.exit 0))
 (.seq (.block 1
 (.seq (.region [⟨some 34,.idx 14 (.t 30) (.t 32),none⟩,⟨some 35,.load true 14 (.t 34) none,none⟩,⟨some 8,.alloc [.v (.int .i64 0),.v (.int .i64 0),.v (.int .u64 0),.v (.int .i64 0),.v (.int .u64 0),.v (.int .i64 0),.v (.int .u64 0),.v (.int .i64 0),.v (.int .u64 0),.v (.int .i64 0),.v (.int .u64 0),.v (.int .i64 0),.v (.int .u64 0),.v (.int .i64 0)],none⟩,⟨none,.store 14 (.t 8) (.t 35) 8,none⟩])
 (.seq (.region [⟨some 36,.load true 2 (.t 3) (some 3),none⟩,⟨some 37,.aI 11 (.t 8),none⟩,⟨some 38,.load true 2 (.t 37) (some 8),none⟩,⟨some 39,.call 165 [(.t 36),(.t 38)],none⟩,⟨some 40,.bin .lss (.t 39) (.k (.int .i64 0)),none⟩])
 (.cond (.t 40)
 (.seq (.region [⟨some 41,.load true 14 (.t 8) (some 8),none⟩,⟨some 42,.load true 14 (.t 8) (some 8),none⟩,⟨some 43,.load true 2 (.t 3) (some 3),none⟩,⟨some 44,.call 234 [(.t 42),(.t 43)],none⟩,⟨some 45,.call 233 [(.t 41),(.t 44)],none⟩,⟨none,.store 3 (.t 4) (.t 45) 4,none⟩,⟨some 5,.mv (.k (.int .i64 0)),none⟩])
 .ret)
 .skip))))
 (.region [⟨some 46,.bin .add (.t 32) (.k (.int .i64 1)),none⟩,⟨some 32,.mv (.t 46),none⟩])))))
def nV.c:SF:=(⟨_,by dsimp⟩:{c:SF//c=⟨48,[.c 4 true 3,.t 5],
 (cR [oB 3 1,oA 4 [zI,zI,zI],oI 5 0]
 (cI [oM 9 0,oG 10 (.gW false (.t 9))] 10
 (cR [oG 11 (.build [zI,zI,zI] []),oP 3 4 11,oI 5 12]
 .ret)
 (cR [oM 12 0,oG 13 (.cB (.t 12)),oD 14 0 13,oG 15 (.load false 1 (.t 14) none),oG 16 (.idx 14 (.t 15) (kI 0)),oG 17 (.load true 14 (.t 16) none),oA 6 [zI,zI,zU,zI,zU,zI,zU,zI,zU,zI,zU,zI,zU,zI],oP 14 6 17]
 (cI [oL 18 2 3,oL 19 14 6,oD 20 0 6,oS 21 1 20 6,oC 22 123 [.t 21],oC 23 122 [.t 19,.t 22],oC 24 165 [.t 18,.t 23],oZ 25 .lss 24 0] 25
 (cR [oG 26 (.build [zI,zI,zI] []),oP 3 4 26,oI 5 8]
 .ret)
 (.seq (cR [oM 27 0,oG 28 (.cB (.t 27)),oD 29 0 28,oG 30 (.load false 1 (.t 29) none),oG 31 (.len (.t 30)),oI 32 0]
 (.block 0
 (.loop nV.l1)))
 (cR [oG 47 (.build [zI,zI,zI] []),oP 3 4 47,oI 5 9]
 .ret))))))⟩}).1
theorem nV.aA:Ck Tryz.f182 nV.c:=cK
theorem nV.ent:EnN 182:=eN Tryz.func182
def Bx.c:SF:=(⟨_,by dsimp⟩:{c:SF//c=⟨21,[.t 2],
 (cR [oB 1 0,oG 2 (.mv kF)]
 (cR [oD 3 1 1,oS 4 1 3 1,oZ 5 .geq 4 0,oM 6 5,⟨some 7,.aI 1 (.t 1),some (6,true)⟩,⟨some 8,.load false 1 (.t 7) (some 1),some (6,true)⟩,⟨some 9,.bin .leq (.t 8) (kI 86400),some (6,true)⟩,oG 10 (.pick (.t 6) (.t 9) kF),oM 11 10,⟨some 12,.aI 2 (.t 1),some (11,true)⟩,⟨some 13,.load false 1 (.t 12) (some 1),some (11,true)⟩,⟨some 14,.bin .geq (.t 13) (kI 0),some (11,true)⟩,oG 15 (.pick (.t 11) (.t 14) kF),oM 16 15,⟨some 17,.aI 2 (.t 1),some (16,true)⟩,⟨some 18,.load false 1 (.t 17) (some 1),some (16,true)⟩,⟨some 19,.bin .lss (.t 18) (kI 0xde0b6b3a7640000),some (16,true)⟩,oG 20 (.pick (.t 16) (.t 19) kF),oM 2 20]
 .ret))⟩}).1
theorem Bx.aA:Ck Tryz.f183 Bx.c:=cK
theorem Bx.ent:EnN 183:=eN Tryz.func183
def zT.c:SF:=(⟨_,by dsimp⟩:{c:SF//c=⟨20,[.t 2,.t 3],
 (cR [oB 1 0,oI 2 0,oI 3 0]
 (cR [oL 7 2 1,oC 8 171 [.t 7],oM 6 8,oJ 9 6 0,oJ 10 6 1,oA 4 [zI,zI,zI],oP 3 4 9,oM 5 10]
 (cI [oM 11 5,oZ 12 .neq 11 0] 12
 (cR [oM 13 5,oI 2 0,oM 3 13]
 .ret)
 (cR [oD 14 0 4,oS 15 1 14 4,oZ 16 .mul 15 86400,oD 17 1 4,oS 18 1 17 4,oY 19 .add 16 18,oM 2 19,oI 3 0]
 .ret))))⟩}).1
theorem zT.aA:Ck Tryz.f184 zT.c:=cK
theorem zT.ent:EnN 184:=eN Tryz.func184
def oW.l1:SC:=
 (.forget [7] (.seq (.region [⟨some 12,.bin .lss (.t 11) (.t 10),none⟩])
 (.seq (.cond (.t 12)
 .skip
 (.exit 0))
 (.seq (.block 1
 (.seq (.region [⟨some 13,.idx 7 (.t 9) (.t 11),none⟩,⟨some 14,.load true 7 (.t 13) none,none⟩,⟨some 7,.alloc [.v (.int .i64 0),.v (.int .u64 0),.v (.int .i64 0),.v (.int .u64 0),.v (.int .i64 0),.v (.int .u64 0),.v (.int .i64 0)],none⟩,⟨none,.store 7 (.t 7) (.t 14) 7,none⟩])
 (.seq (.region [⟨some 15,.load true 2 (.t 3) (some 3),none⟩,⟨some 16,.aI 0 (.t 7),none⟩,⟨some 17,.load true 2 (.t 16) (some 7),none⟩,⟨some 18,.call 165 [(.t 15),(.t 17)],none⟩,⟨some 19,.bin .geq (.t 18) (.k (.int .i64 0)),none⟩,⟨some 20,.mv (.t 19),none⟩,⟨some 21,.load true 2 (.t 3) (some 3),some (20,true)⟩,⟨some 22,.aI 2 (.t 7),some (20,true)⟩,⟨some 23,.load true 2 (.t 22) (some 7),some (20,true)⟩,⟨some 24,.call 165 [(.t 21),(.t 23)],some (20,true)⟩,⟨some 25,.bin .lss (.t 24) (.k (.int .i64 0)),some (20,true)⟩,⟨some 26,.pick (.t 20) (.t 25) (.k (.bool false)),none⟩])
 (.cond (.t 26)
 (.seq (.region [⟨some 27,.load true 7 (.t 7) (some 7),none⟩,⟨none,.store 7 (.t 4) (.t 27) 4,none⟩,⟨some 5,.mv (.k (.bool true)),none⟩])
 .ret)
 .skip))))
 (.region [⟨some 28,.bin .add (.t 11) (.k (.int .i64 1)),none⟩,⟨some 11,.mv (.t 28),none⟩])))))
def oW.c:SF:=(⟨_,by dsimp⟩:{c:SF//c=⟨30,[.c 4 true 7,.t 5],
 (cR [oB 3 1,oA 4 [zI,zU,zI,zU,zI,zU,zI],oG 5 (.mv kF)]
 (.seq (cR [oM 8 0,oG 9 (.aM 178 [.t 8] [(1000,1000)]),oG 10 (.len (.t 9)),oI 11 0]
 (.block 0
 (.loop oW.l1)))
 (cR [oG 29 (.build [zI,zU,zI,zU,zI,zU,zI] []),oP 7 4 29,oG 5 (.mv kF)]
 .ret)))⟩}).1
theorem oW.aA:Ck Tryz.f185 oW.c:=cK
theorem oW.ent:EnN 185:=eN Tryz.func185
def wU.c:SF:=(⟨_,by dsimp⟩:{c:SF//c=⟨43,[.t 4,.t 5,.t 6],
 (cR [oB 3 1,oI 4 0,oI 5 0,oI 6 0]
 (cI [oM 9 0,oG 10 (.aM 227 [.t 9] [(1000,1000)]),oG 11 (.not (.t 10))] 11
 (cR [oI 4 0,oI 5 0,oI 6 12]
 .ret)
 (cR [oM 12 0,oG 13 (.aM 119 [.t 12] [(1000,1000)]),oA 7 [.nil .u8],oP 1 7 13]
 (cR [oF 14 1 7,oG 15 (.len (.t 14)),oG 16 (.vZ 235 [.t 7,.t 3]),oG 17 (.lO 228 [.t 15,.t 16]),oM 8 17]
 (.seq (.block 0
 (cR [oM 19 8,oZ 20 .eql 19 0,oM 18 20]
 (.cond (.t 18)
 (cR [oI 4 0,oI 5 0,oI 6 8]
 .ret)
 (cR [oM 22 8,oF 23 1 7,oG 24 (.len (.t 23)),oY 25 .eql 22 24,oM 21 25]
 (.cond (.t 21)
 (cR [oF 26 1 7,oM 27 8,oZ 28 .sub 27 1,oG 29 (.idx 3 (.t 26) (.t 28)),oD 30 1 29,oG 31 (.load false 1 (.t 30) none),oM 4 31,oI 5 0x4000000000000000,oI 6 0]
 .ret)
 .skip)))))
 (cR [oF 32 1 7,oM 33 8,oZ 34 .sub 33 1,oG 35 (.idx 3 (.t 32) (.t 34)),oD 36 1 35,oG 37 (.load false 1 (.t 36) none),oF 38 1 7,oM 39 8,oG 40 (.idx 3 (.t 38) (.t 39)),oD 41 0 40,oG 42 (.load false 1 (.t 41) none),oM 4 37,oM 5 42,oI 6 0]
 .ret))))))⟩}).1
theorem wU.aA:Ck Tryz.f186 wU.c:=cK
theorem wU.ent:EnN 186:=eN Tryz.func186
def Eu.c:SF:=(⟨_,by dsimp⟩:{c:SF//c=⟨11,[.t 2],
 (cR [oB 1 0,oG 2 (.mv kF)]
 (cR [oD 3 1 1,oS 4 1 3 1,oC 5 157 [.t 4,kI 0,kI 86400],oM 6 5,⟨some 7,.aI 2 (.t 1),some (6,true)⟩,⟨some 8,.load false 1 (.t 7) (some 1),some (6,true)⟩,⟨some 9,.call 157 [.t 8,kI 0,kI 0xde0b6b3a763ffff],some (6,true)⟩,oG 10 (.pick (.t 6) (.t 9) kF),oM 2 10]
 .ret))⟩}).1
theorem Eu.aA:Ck Tryz.f187 Eu.c:=cK
theorem Eu.ent:EnN 187:=eN Tryz.func187
def Fo.c:SF:=(⟨_,by dsimp⟩:{c:SF//c=⟨12,[.t 2],
 (cR [oI 2 0]
 (cI [oM 3 0,oG 4 (.gW false (.t 3))] 4
 (cR [oI 2 0]
 .ret)
 (cR [oM 5 0,oG 6 (.cB (.t 5)),oD 7 0 6,oG 8 (.load false 1 (.t 7) none),oG 9 (.idx 14 (.t 8) (kI 0)),oD 10 0 9,oG 11 (.load false 1 (.t 10) none),oM 2 11]
 .ret)))⟩}).1
theorem Fo.aA:Ck Tryz.f188 Fo.c:=cK
theorem Fo.ent:EnN 188:=eN Tryz.func188
def sC.c:SF:=(⟨_,by dsimp⟩:{c:SF//c=⟨35,[.t 4],
 (cR [oB 3 1,oI 4 0]
 (.seq (.block 0
 (cR [oM 8 0,oG 9 (.gW false (.t 8)),oM 7 9]
 (.cond (.t 7)
 (cR [oI 4 12]
 .ret)
 (cR [oL 11 3 3,oC 12 236 [.t 11],oG 13 (.not (.t 12)),oM 10 13]
 (.cond (.t 10)
 (cR [oI 4 1]
 .ret)
 (cR [oD 15 0 3,oS 16 1 15 3,oC 17 232 [.t 16],oG 18 (.not (.t 17)),oM 14 18]
 (.cond (.t 14)
 (cR [oI 4 2]
 .ret)
 .skip)))))))
 (cR [oM 20 0,oD 21 0 3,oS 22 1 21 3,oG 23 (.aM 237 [.t 20,.t 22] [(1000,1000)]),oM 19 23,oJ 24 19 0,oJ 25 19 1,oM 5 24,oM 6 25]
 (.seq (.block 1
 (cR [oM 27 6,oZ 28 .neq 27 0,oM 26 28]
 (.cond (.t 26)
 (cR [oM 29 6,oM 4 29]
 .ret)
 (cR [oD 31 1 3,oS 32 1 31 3,oM 33 5,oY 34 .geq 32 33,oM 30 34]
 (.cond (.t 30)
 (cR [oI 4 6]
 .ret)
 .skip)))))
 (cR [oI 4 0]
 .ret)))))⟩}).1
theorem sC.aA:Ck Tryz.f189 sC.c:=cK
theorem sC.ent:EnN 189:=eN Tryz.func189
def Fk.c:SF:=(⟨_,by dsimp⟩:{c:SF//c=⟨22,[.c 4 true 2],
 (cR [oA 4 [zI,zU]]
 (cR [oM 8 0,oC 9 162 [.t 8],oC 10 162 [kI 0xde0b6b3a7640000],oC 11 206 [.t 9,.t 10],oM 7 11,oJ 12 7 0,oJ 13 7 1,oA 5 [zI,zU],oP 2 5 12,oM 6 13]
 (cR [oL 15 2 5,oM 16 1,oC 17 162 [.t 16],oC 18 64 [.t 15,.t 17],oM 14 18,oJ 19 14 0,oJ 20 14 1,oP 2 5 19]
 (cR [oL 21 2 5,oP 2 4 21]
 .ret))))⟩}).1
theorem Fk.aA:Ck Tryz.f190 Fk.c:=cK
theorem Fk.ent:EnN 190:=eN Tryz.func190
def Bn.c:SF:=(⟨_,by dsimp⟩:{c:SF//c=⟨23,[.t 2],
 (cR [oG 2 (.mv kF)]
 (cR [oM 5 0,oG 6 (.cB (.t 5)),oD 7 0 6,oS 8 1 7 1000,oC 9 242 [.t 8,(.k (.string ⟨#[32,9]⟩))],oM 3 9]
 (cR [oM 10 3,oG 11 (.mQ (.t 10)),oM 12 0,oG 13 (.cB (.t 12)),oD 14 0 13,oS 15 1 14 1000,oG 16 (.mQ (.t 15)),oY 17 .lss 11 16,oM 4 17]
 (cR [oM 18 0,oM 19 3,oG 20 (.cB (.t 18)),oD 21 0 20,oQ 1 21 19 1000]
 (cR [oM 22 4,oM 2 22]
 .ret)))))⟩}).1
theorem Bn.aA:Ck Tryz.f193 Bn.c:=cK
theorem Bn.ent:EnN 193:=eN Tryz.func193
def rX.c:SF:=(⟨_,by dsimp⟩:{c:SF//c=⟨31,[.t 2,.t 3],
 (cR [oI 2 0,oG 3 (.mv kF)]
 (cR [oM 7 0,oG 8 (.aM 243 [.t 7,(.f 244)] [(1000,1000)]),oM 4 8]
 (cI [oM 9 4,oG 10 (.nL false (.t 9) (.k (.string ⟨#[]⟩))),oM 11 10,⟨some 12,.mv (.t 4),some (11,false)⟩,⟨some 13,.mQ (.t 12),some (11,false)⟩,⟨some 14,.bin .gtr (.t 13) (kI 18),some (11,false)⟩,oG 15 (.pick (.t 11) kT (.t 14)),oM 16 15,⟨some 17,.mv (.t 4),some (16,false)⟩,⟨some 18,.nJ (.t 17) (kI 0),some (16,false)⟩,⟨some 19,.bin .eql (.t 18) (.k (.int .u8 48)),some (16,false)⟩,⟨some 20,.mv (.t 19),some (16,false)⟩,⟨some 21,.mv (.t 4),some (20,true)⟩,⟨some 22,.nL true (.t 21) (.k (.string ⟨#[48]⟩)),some (20,true)⟩,⟨some 23,.pick (.t 20) (.t 22) kF,some (16,false)⟩,oG 24 (.pick (.t 16) kT (.t 23))] 24
 (cR [oI 2 0,oG 3 (.mv kF)]
 .ret)
 (cR [oM 26 4,oC 27 245 [.t 26],oM 25 27,oJ 28 25 0,oJ 29 25 1,oM 5 28,oM 6 29]
 (cR [oM 30 5,oM 2 30,oG 3 (.mv kT)]
 .ret)))))⟩}).1
theorem rX.aA:Ck Tryz.f194 rX.c:=cK
theorem rX.ent:EnN 194:=eN Tryz.func194
def yJ.c:SF:=(⟨_,by dsimp⟩:{c:SF//c=⟨23,[.t 2,.t 3],
 (cR [oG 2 (.mv (.k (.int .u32 0))),oG 3 (.mv kF)]
 (cR [oM 7 0,oG 8 (.aM 243 [.t 7,(.f 246)] [(1000,1000)]),oM 4 8]
 (cI [oM 9 4,oG 10 (.nL false (.t 9) (.k (.string ⟨#[]⟩))),oM 11 10,⟨some 12,.mv (.t 4),some (11,false)⟩,⟨some 13,.mQ (.t 12),some (11,false)⟩,⟨some 14,.bin .gtr (.t 13) (kI 8),some (11,false)⟩,oG 15 (.pick (.t 11) kT (.t 14))] 15
 (cR [oG 2 (.mv (.k (.int .u32 0))),oG 3 (.mv kF)]
 .ret)
 (cR [oM 17 4,oC 18 247 [.t 17,kI 16,kI 32],oM 16 18,oJ 19 16 0,oJ 20 16 1,oM 5 19,oM 6 20]
 (cR [oM 21 5,oG 22 (.cH .u32 (.t 21)),oM 2 22,oG 3 (.mv kT)]
 .ret)))))⟩}).1
theorem yJ.aA:Ck Tryz.f195 yJ.c:=cK
theorem yJ.ent:EnN 195:=eN Tryz.func195
def qT.l1:SC:=
 (.seq (.region [⟨some 6,.bin .lss (.t 5) (.k (.int .i64 80)),none⟩])
 (.seq (.cond (.t 6)
 .skip
 (.exit 0))
 (.seq (.block 1
 (.seq (.region [⟨some 7,.mv (.t 5),none⟩,⟨some 4,.mv (.t 7),none⟩])
 (.seq (.seq (.region [⟨some 8,.mv (.t 4),none⟩,⟨some 9,.bin .lss (.t 8) (.k (.int .i64 16)),none⟩])
 (.cond (.t 9)
 (.seq (.region [⟨some 10,.mv (.t 4),none⟩,⟨some 11,.mv (.t 0),none⟩,⟨some 12,.mv (.t 4),none⟩,⟨some 13,.bin .mul (.k (.int .i64 4)) (.t 12),none⟩,⟨some 14,.idx 1 (.t 11) (.t 13),none⟩,⟨some 15,.load false 1 (.t 14) none,none⟩,⟨some 16,.cH .u32 (.t 15),none⟩,⟨some 17,.bin .shl (.t 16) (.k (.int .u64 24)),none⟩,⟨some 18,.mv (.t 0),none⟩,⟨some 19,.mv (.t 4),none⟩,⟨some 20,.bin .mul (.k (.int .i64 4)) (.t 19),none⟩,⟨some 21,.bin .add (.t 20) (.k (.int .i64 1)),none⟩,⟨some 22,.idx 1 (.t 18) (.t 21),none⟩,⟨some 23,.load false 1 (.t 22) none,none⟩,⟨some 24,.cH .u32 (.t 23),none⟩,⟨some 25,.bin .shl (.t 24) (.k (.int .u64 16)),none⟩,⟨some 26,.bin .or (.t 17) (.t 25),none⟩,⟨some 27,.mv (.t 0),none⟩,⟨some 28,.mv (.t 4),none⟩,⟨some 29,.bin .mul (.k (.int .i64 4)) (.t 28),none⟩,⟨some 30,.bin .add (.t 29) (.k (.int .i64 2)),none⟩,⟨some 31,.idx 1 (.t 27) (.t 30),none⟩,⟨some 32,.load false 1 (.t 31) none,none⟩,⟨some 33,.cH .u32 (.t 32),none⟩,⟨some 34,.bin .shl (.t 33) (.k (.int .u64 8)),none⟩,⟨some 35,.bin .or (.t 26) (.t 34),none⟩,⟨some 36,.mv (.t 0),none⟩,⟨some 37,.mv (.t 4),none⟩,⟨some 38,.bin .mul (.k (.int .i64 4)) (.t 37),none⟩,⟨some 39,.bin .add (.t 38) (.k (.int .i64 3)),none⟩,⟨some 40,.idx 1 (.t 36) (.t 39),none⟩,⟨some 41,.load false 1 (.t 40) none,none⟩,⟨some 42,.cH .u32 (.t 41),none⟩,⟨some 43,.bin .or (.t 35) (.t 42),none⟩,⟨some 44,.dN 1 80 (.t 3) (.t 10),none⟩,⟨none,.store 1 (.t 44) (.t 43) 3,none⟩])
 (.exit 1))
 .skip))
 (.region [⟨some 45,.mv (.t 4),none⟩,⟨some 46,.mv (.t 4),none⟩,⟨some 47,.bin .sub (.t 46) (.k (.int .i64 3)),none⟩,⟨some 48,.dN 1 80 (.t 3) (.t 47),none⟩,⟨some 49,.load false 1 (.t 48) (some 3),none⟩,⟨some 50,.mv (.t 4),none⟩,⟨some 51,.bin .sub (.t 50) (.k (.int .i64 8)),none⟩,⟨some 52,.dN 1 80 (.t 3) (.t 51),none⟩,⟨some 53,.load false 1 (.t 52) (some 3),none⟩,⟨some 54,.bin .xor (.t 49) (.t 53),none⟩,⟨some 55,.mv (.t 4),none⟩,⟨some 56,.bin .sub (.t 55) (.k (.int .i64 14)),none⟩,⟨some 57,.dN 1 80 (.t 3) (.t 56),none⟩,⟨some 58,.load false 1 (.t 57) (some 3),none⟩,⟨some 59,.bin .xor (.t 54) (.t 58),none⟩,⟨some 60,.mv (.t 4),none⟩,⟨some 61,.bin .sub (.t 60) (.k (.int .i64 16)),none⟩,⟨some 62,.dN 1 80 (.t 3) (.t 61),none⟩,⟨some 63,.load false 1 (.t 62) (some 3),none⟩,⟨some 64,.bin .xor (.t 59) (.t 63),none⟩,⟨some 65,.call 197 [(.t 64),(.k (.int .i64 1))],none⟩,⟨some 66,.dN 1 80 (.t 3) (.t 45),none⟩,⟨none,.store 1 (.t 66) (.t 65) 3,none⟩]))))
 (.region [⟨some 67,.bin .add (.t 5) (.k (.int .i64 1)),none⟩,⟨some 5,.mv (.t 67),none⟩]))))
def qT.c:SF:=(⟨_,by dsimp⟩:{c:SF//c=⟨69,[.c 2 true 80],
 (cR [oA 2 [zW,zW,zW,zW,zW,zW,zW,zW,zW,zW,zW,zW,zW,zW,zW,zW,zW,zW,zW,zW,zW,zW,zW,zW,zW,zW,zW,zW,zW,zW,zW,zW,zW,zW,zW,zW,zW,zW,zW,zW,zW,zW,zW,zW,zW,zW,zW,zW,zW,zW,zW,zW,zW,zW,zW,zW,zW,zW,zW,zW,zW,zW,zW,zW,zW,zW,zW,zW,zW,zW,zW,zW,zW,zW,zW,zW,zW,zW,zW,zW]]
 (cR [oA 3 [zW,zW,zW,zW,zW,zW,zW,zW,zW,zW,zW,zW,zW,zW,zW,zW,zW,zW,zW,zW,zW,zW,zW,zW,zW,zW,zW,zW,zW,zW,zW,zW,zW,zW,zW,zW,zW,zW,zW,zW,zW,zW,zW,zW,zW,zW,zW,zW,zW,zW,zW,zW,zW,zW,zW,zW,zW,zW,zW,zW,zW,zW,zW,zW,zW,zW,zW,zW,zW,zW,zW,zW,zW,zW,zW,zW,zW,zW,zW,zW]]
 (.seq (cR [oI 5 0]
 (.block 0
 (.loop qT.l1)))
 (cR [oL 68 80 3,oP 80 2 68]
 .ret))))⟩}).1
theorem qT.aA:Ck Tryz.f196 qT.c:=cK
theorem qT.ent:EnN 196:=eN Tryz.func196
def uZ.c:SF:=(⟨_,by dsimp⟩:{c:SF//c=⟨39,[.t 8],
 (cR [oG 8 (.mv (.k (.int .u32 0)))]
 (.seq (cR [oM 9 0,oZ 10 .quo 9 20]
 (.block 0
 (cR [oZ 12 .eql 10 0,oM 11 12]
 (.cond (.t 11)
 (cR [oM 13 1,oM 14 2,oY 15 .and 13 14,oM 16 1,oG 17 (.Ax (.t 16)),oM 18 3,oY 19 .and 17 18,oY 20 .or 15 19,oM 8 20]
 .ret)
 (cR [oZ 22 .eql 10 2,oM 21 22]
 (.cond (.t 21)
 (cR [oM 23 1,oM 24 2,oY 25 .and 23 24,oM 26 1,oM 27 3,oY 28 .and 26 27,oY 29 .or 25 28,oM 30 2,oM 31 3,oY 32 .and 30 31,oY 33 .or 29 32,oM 8 33]
 .ret)
 .skip))))))
 (cR [oM 34 1,oM 35 2,oY 36 .xor 34 35,oM 37 3,oY 38 .xor 36 37,oM 8 38]
 .ret)))⟩}).1
theorem uZ.aA:Ck Tryz.f198 uZ.c:=cK
theorem uZ.ent:EnN 198:=eN Tryz.func198
def tU.c:SF:=(⟨_,by dsimp⟩:{c:SF//c=⟨11,[.t 2],
 (cR [oG 2 (.mv (.k (.int .u32 0)))]
 (.seq (cR [oM 3 0,oZ 4 .quo 3 20]
 (.block 0
 (cR [oZ 6 .eql 4 0,oM 5 6]
 (.cond (.t 5)
 (cR [oG 2 (.mv (.k (.int .u32 1518500249)))]
 .ret)
 (cR [oZ 8 .eql 4 1,oM 7 8]
 (.cond (.t 7)
 (cR [oG 2 (.mv (.k (.int .u32 1859775393)))]
 .ret)
 (cR [oZ 10 .eql 4 2,oM 9 10]
 (.cond (.t 9)
 (cR [oG 2 (.mv (.k (.int .u32 2400959708)))]
 .ret)
 .skip))))))))
 (cR [oG 2 (.mv (.k (.int .u32 3395469782)))]
 .ret)))⟩}).1
theorem tU.aA:Ck Tryz.f199 tU.c:=cK
theorem tU.ent:EnN 199:=eN Tryz.func199
def oK.l1:SC:=
 (.seq (.region [⟨some 9,.bin .lss (.t 8) (.t 7),none⟩])
 (.seq (.cond (.t 9)
 .skip
 (.exit 0))
 (.seq (.block 1
 (.seq (.region [⟨some 10,.mv (.t 8),none⟩,⟨some 5,.mv (.t 10),none⟩])
 (.seq (.region [⟨some 11,.mv (.t 1),none⟩,⟨some 12,.mv (.t 0),none⟩,⟨some 13,.mv (.t 5),none⟩,⟨some 14,.idx 14 (.t 12) (.t 13),none⟩,⟨some 15,.load true 14 (.t 14) none,none⟩,⟨some 16,.dyn (.t 11) [(.t 15)],none⟩])
 (.cond (.t 16)
 (.seq (.region [⟨some 17,.mv (.t 5),none⟩,⟨some 4,.mv (.t 17),none⟩])
 .ret)
 .skip))))
 (.region [⟨some 18,.bin .add (.t 8) (.k (.int .i64 1)),none⟩,⟨some 8,.mv (.t 18),none⟩]))))
def oK.c:SF:=(⟨_,by dsimp⟩:{c:SF//c=⟨19,[.t 4],
 (cR [oI 4 0]
 (.seq (cR [oM 6 0,oG 7 (.len (.t 6)),oI 8 0]
 (.block 0
 (.loop oK.l1)))
 (cR [oI 4 (-1)]
 .ret)))⟩}).1
theorem oK.aA:Ck Tryz.f213 oK.c:=cK
theorem oK.ent:EnN 213:=eN Tryz.func213
def wO.c:SF:=(⟨_,by dsimp⟩:{c:SF//c=⟨20,[.c 2 true 3,.t 3],
 (cR [oB 1 0,oA 2 [zI,zI,zI],oI 3 0]
 (cR [oL 7 2 1,oC 8 173 [kI 3506716800],oC 9 64 [.t 7,.t 8],oM 6 9,oJ 10 6 0,oJ 11 6 1,oA 4 [zI,zU],oP 2 4 10,oM 5 11]
 (cI [oM 12 5,oZ 13 .neq 12 0] 13
 (cR [oG 14 (.build [zI,zI,zI] []),oM 15 5,oP 3 2 14,oM 3 15]
 .ret)
 (cR [oL 16 2 4,oC 17 171 [.t 16],oJ 18 17 0,oJ 19 17 1,oP 3 2 18,oM 3 19]
 .ret))))⟩}).1
theorem wO.aA:Ck Tryz.f225 wO.c:=cK
theorem wO.ent:EnN 225:=eN Tryz.func225
def Dv.c:SF:=(⟨_,by dsimp⟩:{c:SF//c=⟨15,[.t 4],
 (cR [oB 3 1,oG 4 (.mv kF)]
 (cR [oM 8 0,oL 9 3 3,oG 10 (.aM 107 [.t 8,.t 9] [(1000,1000),(1001,1001)]),oM 7 10,oJ 11 7 0,oJ 12 7 1,oA 5 [zI,zU],oP 2 5 11,oM 6 12]
 (cR [oM 13 6,oZ 14 .eql 13 0,oM 4 14]
 .ret)))⟩}).1
theorem Dv.aA:Ck Tryz.f226 Dv.c:=cK
theorem Dv.ent:EnN 226:=eN Tryz.func226
def Bm.c:SF:=(⟨_,by dsimp⟩:{c:SF//c=⟨9,[.t 2],
 (cR [oG 2 (.mv kF)]
 (cI [oM 3 0,oG 4 (.gW false (.t 3))] 4
 (cR [oG 2 (.mv kF)]
 .ret)
 (cR [oM 5 0,oG 6 (.cB (.t 5)),oD 7 7 6,oG 8 (.aM 30 [.t 7,kI 1] [(1000,1000)])]
 (cR [oG 2 (.mv kT)]
 .ret))))⟩}).1
theorem Bm.aA:Ck Tryz.f227 Bm.c:=cK
theorem Bm.ent:EnN 227:=eN Tryz.func227
def iQ.l1:SC:=
 (.seq (.seq (.region [⟨some 9,.mv (.t 5),none⟩,⟨some 10,.mv (.t 6),none⟩,⟨some 11,.bin .lss (.t 9) (.t 10),none⟩])
 (.cond (.t 11)
 .skip
 (.exit 0)))
 (.block 1
 (.seq (.region [⟨some 12,.mv (.t 5),none⟩,⟨some 13,.mv (.t 6),none⟩,⟨some 14,.bin .add (.t 12) (.t 13),none⟩,⟨some 15,.cH .u64 (.t 14),none⟩,⟨some 16,.bin .shr (.t 15) (.k (.int .u64 1)),none⟩,⟨some 17,.cH .i64 (.t 16),none⟩,⟨some 7,.mv (.t 17),none⟩])
 (.seq (.region [⟨some 18,.mv (.t 1),none⟩,⟨some 19,.mv (.t 7),none⟩,⟨some 20,.dyn (.t 18) [(.t 19)],none⟩,⟨some 21,.not (.t 20),none⟩])
 (.cond (.t 21)
 (.region [⟨some 22,.mv (.t 7),none⟩,⟨some 23,.bin .add (.t 22) (.k (.int .i64 1)),none⟩,⟨some 5,.mv (.t 23),none⟩])
 (.region [⟨some 24,.mv (.t 7),none⟩,⟨some 6,.mv (.t 24),none⟩]))))))
def iQ.c:SF:=(⟨_,by dsimp⟩:{c:SF//c=⟨26,[.t 4],
 (cR [oI 4 0]
 (cR [oM 8 0,oI 5 0,oM 6 8]
 (.seq (.block 0
 (.loop iQ.l1))
 (cR [oM 25 5,oM 4 25]
 .ret))))⟩}).1
theorem iQ.aA:Ck Tryz.f228 iQ.c:=cK
theorem iQ.ent:EnN 228:=eN Tryz.func228
def Dq.c:SF:=(⟨_,by dsimp⟩:{c:SF//c=⟨12,[.t 4],
 (cR [oG 4 (.mv kF)]
 (cR [oG 5 (.load false 1 (.t 1) none),oM 6 0,oG 7 (.idx 3 (.t 5) (.t 6)),oD 8 0 7,oG 9 (.load false 1 (.t 8) none),oG 10 (.load false 1 (.t 2) none),oY 11 .gtr 9 10,oM 4 11]
 .ret))⟩}).1
theorem Dq.aA:Ck Tryz.f229 Dq.c:=cK
theorem Dq.ent:EnN 229:=eN Tryz.func229
def Dp.c:SF:=(⟨_,by dsimp⟩:{c:SF//c=⟨11,[.c 2 true 3],
 (cR [oA 2 [zI,zI,.nil .u8]]
 (cI [oM 3 0,oG 4 (.gW false (.t 3))] 4
 (cR [oG 5 (.build [zI,zI,.nil .u8] []),oP 3 2 5]
 .ret)
 (cR [oM 6 0,oG 7 (.cB (.t 6)),oD 8 0 7,oV 9 3 8 1000,oC 10 118 [.t 9],oP 3 2 10]
 .ret)))⟩}).1
theorem Dp.aA:Ck Tryz.f230 Dp.c:=cK
theorem Dp.ent:EnN 230:=eN Tryz.func230
def zP.c:SF:=(⟨_,by dsimp⟩:{c:SF//c=⟨16,[.t 4],
 (cR [oI 4 0]
 (cR [oM 6 0,oM 7 1,oY 8 .quo 6 7,oM 5 8]
 (cI [oM 9 0,oM 10 1,oY 11 .rem 9 10,oZ 12 .lss 11 0] 12
 (.region [oM 13 5,oZ 14 .sub 13 1,oM 5 14])
 (cR [oM 15 5,oM 4 15]
 .ret))))⟩}).1
theorem zP.aA:Ck Tryz.f231 zP.c:=cK
theorem zP.ent:EnN 231:=eN Tryz.func231
def Fq.c:SF:=(⟨_,by dsimp⟩:{c:SF//c=⟨9,[.t 2],
 (cR [oG 2 (.mv kF)]
 (cR [oM 3 0,oZ 4 .geq 3 (-1099511627776),oM 5 4,⟨some 6,.mv (.t 0),some (5,true)⟩,⟨some 7,.bin .leq (.t 6) (kI 1099511627776),some (5,true)⟩,oG 8 (.pick (.t 5) (.t 7) kF),oM 2 8]
 .ret))⟩}).1
theorem Fq.aA:Ck Tryz.f232 Fq.c:=cK
theorem Fq.ent:EnN 232:=eN Tryz.func232
def Ao.c:SF:=(⟨_,by dsimp⟩:{c:SF//c=⟨58,[.c 4 true 3],
 (cR [oB 2 0,oB 3 1,oA 4 [zI,zI,zI]]
 (cR [oL 18 2 3,oC 19 162 [kI 0xde0b6b3a7640000],oC 20 222 [.t 18,.t 19],oM 17 20,oJ 21 17 0,oJ 22 17 1,oJ 23 17 2,oA 5 [zI,zU],oA 6 [zI,zU],oP 2 5 21,oP 2 6 22,oM 7 23]
 (cR [oL 25 2 5,oC 26 162 [kI 86400],oC 27 222 [.t 25,.t 26],oM 24 27,oJ 28 24 0,oJ 29 24 1,oJ 30 24 2,oA 8 [zI,zU],oA 9 [zI,zU],oP 2 8 28,oP 2 9 29,oM 10 30]
 (cR [oL 32 2 8,oC 33 223 [.t 32],oM 31 33,oJ 34 31 0,oJ 35 31 1,oM 11 34,oM 12 35]
 (cR [oL 37 2 9,oC 38 223 [.t 37],oM 36 38,oJ 39 36 0,oJ 40 36 1,oM 13 39,oM 14 40]
 (cR [oL 42 2 6,oC 43 223 [.t 42],oM 41 43,oJ 44 41 0,oJ 45 41 1,oM 15 44,oM 16 45]
 (cI [oM 46 11,oD 47 13 2,oS 48 1 47 2,oY 49 .geq 46 48] 49
 (.region [oM 50 11,oZ 51 .sub 50 1,oM 52 13,oZ 53 .add 52 86400,oM 11 51,oM 13 53])
 (cR [oM 54 11,oM 55 13,oM 56 15,oG 57 (.build [zI,zI,zI] [(0,1,.t 54),(1,1,.t 55),(2,1,.t 56)]),oP 3 4 57]
 .ret))))))))⟩}).1
theorem Ao.aA:Ck Tryz.f233 Ao.c:=cK
theorem Ao.ent:EnN 233:=eN Tryz.func233
def vO.c:SF:=(⟨_,by dsimp⟩:{c:SF//c=⟨38,[.c 4 true 2],
 (cR [oB 2 0,oB 3 1,oA 4 [zI,zU]]
 (cR [oL 9 2 3,oD 10 1 2,oV 11 2 10 2,oC 12 161 [.t 9,.t 11],oD 13 3 2,oV 14 2 13 2,oC 15 161 [.t 12,.t 14],oA 5 [zI,zU],oP 2 5 15]
 (cR [oL 17 2 5,oC 18 162 [kI 1],oC 19 159 [.t 17,.t 18],oD 20 5 2,oV 21 2 20 2,oD 22 7 2,oV 23 2 22 2,oC 24 160 [.t 19,.t 21,.t 23],oM 16 24,oJ 25 16 0,oJ 26 16 1,oJ 27 16 2,oA 6 [zI,zU],oA 7 [zI,zU],oP 2 6 25,oP 2 7 26,oM 8 27]
 (cI [oL 28 2 7,oG 29 (.build [zI,zU] []),oG 30 (.eqs false [.i64,.u64] (.t 28) (.t 29))] 30
 (.region [oL 31 2 6,oC 32 162 [kI 1],oC 33 161 [.t 31,.t 32],oP 2 6 33])
 (cR [oL 34 2 6,oD 35 3 2,oV 36 2 35 2,oC 37 159 [.t 34,.t 36],oP 2 4 37]
 .ret)))))⟩}).1
theorem vO.aA:Ck Tryz.f234 vO.c:=cK
theorem vO.ent:EnN 234:=eN Tryz.func234
def Ct.c:SF:=(⟨_,by dsimp⟩:{c:SF//c=⟨12,[.t 4],
 (cR [oG 4 (.mv kF)]
 (cR [oG 5 (.load false 1 (.t 1) none),oM 6 0,oG 7 (.idx 3 (.t 5) (.t 6)),oD 8 2 7,oG 9 (.load false 1 (.t 8) none),oG 10 (.load false 1 (.t 2) none),oY 11 .gtr 9 10,oM 4 11]
 .ret))⟩}).1
theorem Ct.aA:Ck Tryz.f235 Ct.c:=cK
theorem Ct.ent:EnN 235:=eN Tryz.func235
def Eh.c:SF:=(⟨_,by dsimp⟩:{c:SF//c=⟨21,[.t 2],
 (cR [oB 1 0,oG 2 (.mv kF)]
 (cR [oD 3 1 1,oS 4 1 3 1,oZ 5 .geq 4 0,oM 6 5,⟨some 7,.aI 1 (.t 1),some (6,true)⟩,⟨some 8,.load false 1 (.t 7) (some 1),some (6,true)⟩,⟨some 9,.bin .leq (.t 8) (kI 86400),some (6,true)⟩,oG 10 (.pick (.t 6) (.t 9) kF),oM 11 10,⟨some 12,.aI 2 (.t 1),some (11,true)⟩,⟨some 13,.load false 1 (.t 12) (some 1),some (11,true)⟩,⟨some 14,.bin .geq (.t 13) (kI 0),some (11,true)⟩,oG 15 (.pick (.t 11) (.t 14) kF),oM 16 15,⟨some 17,.aI 2 (.t 1),some (16,true)⟩,⟨some 18,.load false 1 (.t 17) (some 1),some (16,true)⟩,⟨some 19,.bin .lss (.t 18) (kI 0xde0b6b3a7640000),some (16,true)⟩,oG 20 (.pick (.t 16) (.t 19) kF),oM 2 20]
 .ret))⟩}).1
theorem Eh.aA:Ck Tryz.f236 Eh.c:=cK
theorem Eh.ent:EnN 236:=eN Tryz.func236
def Ai.c:SF:=(⟨_,by dsimp⟩:{c:SF//c=⟨17,[.t 4,.t 5],
 (cR [oI 4 0,oI 5 0]
 (cI [oM 6 0,oG 7 (.aM 227 [.t 6] [(1000,1000)]),oG 8 (.not (.t 7))] 8
 (cR [oI 4 0,oI 5 12]
 .ret)
 (cI [oM 9 1,oM 10 0,oG 11 (.aM 85 [.t 10] [(1000,1000)]),oY 12 .lss 9 11] 12
 (cR [oI 4 0,oI 5 8]
 .ret)
 (cR [oM 13 0,oM 14 1,oG 15 (.aM 258 [.t 13,.t 14] [(1000,1000)]),oX 16 .add (kI 86400) (.t 15),oM 4 16,oI 5 0]
 .ret))))⟩}).1
theorem Ai.aA:Ck Tryz.f237 Ai.c:=cK
theorem Ai.ent:EnN 237:=eN Tryz.func237
def qL.l1:SC:=
 (.seq (.seq (.region [⟨some 7,.mv (.t 5),none⟩,⟨some 8,.mv (.t 0),none⟩,⟨some 9,.cB (.t 8),none⟩,⟨some 10,.aI 0 (.t 9),none⟩,⟨some 11,.load false 1 (.t 10) (some 1000),none⟩,⟨some 12,.mQ (.t 11),none⟩,⟨some 13,.bin .lss (.t 7) (.t 12),none⟩,⟨some 14,.mv (.t 13),none⟩,⟨some 15,.mv (.t 1),some (14,true)⟩,⟨some 16,.mv (.t 0),some (14,true)⟩,⟨some 17,.cB (.t 16),some (14,true)⟩,⟨some 18,.aI 0 (.t 17),some (14,true)⟩,⟨some 19,.load false 1 (.t 18) (some 1000),some (14,true)⟩,⟨some 20,.mv (.t 5),some (14,true)⟩,⟨some 21,.nJ (.t 19) (.t 20),some (14,true)⟩,⟨some 22,.dyn (.t 15) [(.t 21)],some (14,true)⟩,⟨some 23,.pick (.t 14) (.t 22) (.k (.bool false)),none⟩])
 (.cond (.t 23)
 .skip
 (.exit 0)))
 (.block 1
 (.region [⟨some 24,.mv (.t 5),none⟩,⟨some 25,.bin .add (.t 24) (.k (.int .i64 1)),none⟩,⟨some 5,.mv (.t 25),none⟩])))
def qL.c:SF:=(⟨_,by dsimp⟩:{c:SF//c=⟨42,[.t 4],
 (cR [oG 4 (.mv (.k (.string ⟨#[]⟩)))]
 (cR [oI 5 0]
 (.seq (.block 0
 (.loop qL.l1))
 (cR [oM 26 0,oG 27 (.cB (.t 26)),oD 28 0 27,oS 29 1 28 1000,oM 30 5,oG 31 (.kZ (.t 29) none (some (.t 30))),oM 6 31]
 (cR [oM 32 0,oM 33 0,oG 34 (.cB (.t 33)),oD 35 0 34,oS 36 1 35 1000,oM 37 5,oG 38 (.kZ (.t 36) (some (.t 37)) none),oG 39 (.cB (.t 32)),oD 40 0 39,oQ 1 40 38 1000]
 (cR [oM 41 6,oM 4 41]
 .ret))))))⟩}).1
theorem qL.aA:Ck Tryz.f243 qL.c:=cK
theorem qL.ent:EnN 243:=eN Tryz.func243
def Cz.c:SF:=(⟨_,by dsimp⟩:{c:SF//c=⟨9,[.t 2],
 (cR [oG 2 (.mv kF)]
 (cR [oM 3 0,oX 4 .geq (.t 3) (.k (.int .u8 48)),oM 5 4,⟨some 6,.mv (.t 0),some (5,true)⟩,⟨some 7,.bin .leq (.t 6) (.k (.int .u8 57)),some (5,true)⟩,oG 8 (.pick (.t 5) (.t 7) kF),oM 2 8]
 .ret))⟩}).1
theorem Cz.aA:Ck Tryz.f244 Cz.c:=cK
theorem Cz.ent:EnN 244:=eN Tryz.func244
def Fa.c:SF:=(⟨_,by dsimp⟩:{c:SF//c=⟨17,[.t 2],
 (cR [oG 2 (.mv kF)]
 (cR [oM 3 0,oX 4 .geq (.t 3) (.k (.int .u8 48)),oM 5 4,⟨some 6,.mv (.t 0),some (5,true)⟩,⟨some 7,.bin .leq (.t 6) (.k (.int .u8 57)),some (5,true)⟩,oG 8 (.pick (.t 5) (.t 7) kF),oM 9 8,⟨some 10,.mv (.t 0),some (9,false)⟩,⟨some 11,.bin .geq (.t 10) (.k (.int .u8 97)),some (9,false)⟩,⟨some 12,.mv (.t 11),some (9,false)⟩,⟨some 13,.mv (.t 0),some (12,true)⟩,⟨some 14,.bin .leq (.t 13) (.k (.int .u8 102)),some (12,true)⟩,⟨some 15,.pick (.t 12) (.t 14) kF,some (9,false)⟩,oG 16 (.pick (.t 9) kT (.t 15)),oM 2 16]
 .ret))⟩}).1
theorem Fa.aA:Ck Tryz.f246 Fa.c:=cK
theorem Fa.ent:EnN 246:=eN Tryz.func246
def Dh.c:SF:=(⟨_,by dsimp⟩:{c:SF//c=⟨26,[.t 6,.t 7],
 (cR [oG 6 (.mv (kU 0)),oG 7 (.mv (.k (.nilIface)))]
 (cR [oM 11 0,oM 12 1,oM 13 2,oC 14 267 [.t 11,.t 12,.t 13],oM 10 14,oJ 15 10 0,oJ 16 10 1,oM 8 15,oM 9 16]
 (cI [oM 17 9,oG 18 (.yU true (.t 17))] 18
 (cR [oM 19 8,oM 20 0,oM 21 1,oM 22 2,oM 23 9,oC 24 266 [(.k (.string ⟨#[80,97,114,115,101,85,105,110,116]⟩)),.t 20,.t 21,.t 22,.t 23],oM 6 19,oM 7 24]
 .ret)
 (cR [oM 25 8,oM 6 25,oG 7 (.mv (.k (.nilIface)))]
 .ret))))⟩}).1
theorem Dh.aA:Ck Tryz.f247 Dh.c:=cK
theorem Dh.ent:EnN 247:=eN Tryz.func247
def sW.c:SF:=(⟨_,by dsimp⟩:{c:SF//c=⟨43,[.t 4],
 (cR [oB 3 1,oI 4 0]
 (cR [oM 7 0,oG 8 (.aM 119 [.t 7] [(1000,1000)]),oA 5 [.nil .u8],oP 1 5 8]
 (cR [oF 9 1 5,oG 10 (.len (.t 9)),oG 11 (.vZ 275 [.t 5,.t 3]),oG 12 (.lO 228 [.t 10,.t 11]),oM 6 12]
 (cI [oM 13 6,oZ 14 .eql 13 0,oM 15 14,⟨some 16,.mv (.t 6),some (15,false)⟩,⟨some 17,.load false 1 (.t 5) (some 5),some (15,false)⟩,⟨some 18,.len (.t 17),some (15,false)⟩,⟨some 19,.bin .eql (.t 16) (.t 18),some (15,false)⟩,oG 20 (.pick (.t 15) kT (.t 19)),oM 21 20,⟨some 22,.load false 1 (.t 5) (some 5),some (21,false)⟩,⟨some 23,.mv (.t 6),some (21,false)⟩,⟨some 24,.idx 3 (.t 22) (.t 23),some (21,false)⟩,⟨some 25,.aI 0 (.t 24),some (21,false)⟩,⟨some 26,.load false 1 (.t 25) none,some (21,false)⟩,⟨some 27,.bin .sub (.t 26) (kI 1),some (21,false)⟩,⟨some 28,.load false 1 (.t 3) (some 3),some (21,false)⟩,⟨some 29,.bin .neq (.t 27) (.t 28),some (21,false)⟩,oG 30 (.pick (.t 21) kT (.t 29))] 30
 (cR [oI 4 0]
 .ret)
 (cR [oF 31 1 5,oM 32 6,oG 33 (.idx 3 (.t 31) (.t 32)),oD 34 1 33,oG 35 (.load false 1 (.t 34) none),oF 36 1 5,oM 37 6,oZ 38 .sub 37 1,oG 39 (.idx 3 (.t 36) (.t 38)),oD 40 1 39,oG 41 (.load false 1 (.t 40) none),oY 42 .sub 35 41,oM 4 42]
 .ret)))))⟩}).1
theorem sW.aA:Ck Tryz.f258 sW.c:=cK
theorem sW.ent:EnN 258:=eN Tryz.func258
def qF.l1:SC:=
 (.seq (.region [⟨some 102,.bin .lss (.t 101) (.t 100),none⟩])
 (.seq (.cond (.t 102)
 .skip
 (.exit 3))
 (.seq (.block 4
 (.seq (.region [⟨some 103,.idx 1 (.t 99) (.t 101),none⟩,⟨some 104,.load false 1 (.t 103) none,none⟩,⟨some 15,.mv (.t 104),none⟩])
 (.seq (.region [⟨some 16,.mv (.k (.int .u8 0)),none⟩])
 (.seq (.block 5
 (.seq (.region [⟨some 107,.mv (.t 15),none⟩,⟨some 108,.bin .eql (.t 107) (.k (.int .u8 95)),none⟩,⟨some 109,.mv (.t 108),none⟩,⟨some 110,.mv (.t 8),some (109,true)⟩,⟨some 111,.pick (.t 109) (.t 110) (.k (.bool false)),none⟩,⟨some 106,.mv (.t 111),none⟩])
 (.cond (.t 106)
 (.seq (.region [⟨some 12,.mv (.k (.bool true)),none⟩])
 (.exit 4))
 (.seq (.region [⟨some 113,.mv (.t 15),none⟩,⟨some 114,.bin .leq (.k (.int .u8 48)) (.t 113),none⟩,⟨some 115,.mv (.t 114),none⟩,⟨some 116,.mv (.t 15),some (115,true)⟩,⟨some 117,.bin .leq (.t 116) (.k (.int .u8 57)),some (115,true)⟩,⟨some 118,.pick (.t 115) (.t 117) (.k (.bool false)),none⟩,⟨some 112,.mv (.t 118),none⟩])
 (.cond (.t 112)
 (.region [⟨some 119,.mv (.t 15),none⟩,⟨some 120,.bin .sub (.t 119) (.k (.int .u8 48)),none⟩,⟨some 16,.mv (.t 120),none⟩])
 (.seq (.region [⟨some 122,.mv (.t 15),none⟩,⟨some 123,.call 284 [(.t 122)],none⟩,⟨some 124,.bin .leq (.k (.int .u8 97)) (.t 123),none⟩,⟨some 125,.mv (.t 124),none⟩,⟨some 126,.mv (.t 15),some (125,true)⟩,⟨some 127,.call 284 [(.t 126)],some (125,true)⟩,⟨some 128,.bin .leq (.t 127) (.k (.int .u8 122)),some (125,true)⟩,⟨some 129,.pick (.t 125) (.t 128) (.k (.bool false)),none⟩,⟨some 121,.mv (.t 129),none⟩])
 (.cond (.t 121)
 (.region [⟨some 130,.mv (.t 15),none⟩,⟨some 131,.call 284 [(.t 130)],none⟩,⟨some 132,.bin .sub (.t 131) (.k (.int .u8 97)),none⟩,⟨some 133,.bin .add (.t 132) (.k (.int .u8 10)),none⟩,⟨some 16,.mv (.t 133),none⟩])
 (.seq .bad
 .ret))))))))
 (.seq (.seq (.region [⟨some 134,.mv (.t 16),none⟩,⟨some 135,.mv (.t 1),none⟩,⟨some 136,.cH .u8 (.t 135),none⟩,⟨some 137,.bin .geq (.t 134) (.t 136),none⟩])
 (.cond (.t 137)
 (.seq .bad
 .ret)
 .skip))
 (.seq (.seq (.region [⟨some 139,.mv (.t 13),none⟩,⟨some 140,.mv (.t 10),none⟩,⟨some 141,.bin .geq (.t 139) (.t 140),none⟩])
 (.cond (.t 141)
 (.seq .bad
 .ret)
 .skip))
 (.seq (.region [⟨some 144,.mv (.t 13),none⟩,⟨some 145,.mv (.t 1),none⟩,⟨some 146,.cH .u64 (.t 145),none⟩,⟨some 147,.bin .mul (.t 144) (.t 146),none⟩,⟨some 13,.mv (.t 147),none⟩])
 (.seq (.region [⟨some 148,.mv (.t 13),none⟩,⟨some 149,.mv (.t 16),none⟩,⟨some 150,.cH .u64 (.t 149),none⟩,⟨some 151,.bin .add (.t 148) (.t 150),none⟩,⟨some 17,.mv (.t 151),none⟩])
 (.seq (.seq (.region [⟨some 152,.mv (.t 17),none⟩,⟨some 153,.mv (.t 13),none⟩,⟨some 154,.bin .lss (.t 152) (.t 153),none⟩,⟨some 155,.mv (.t 154),none⟩,⟨some 156,.mv (.t 17),some (155,false)⟩,⟨some 157,.mv (.t 11),some (155,false)⟩,⟨some 158,.bin .gtr (.t 156) (.t 157),some (155,false)⟩,⟨some 159,.pick (.t 155) (.k (.bool true)) (.t 158),none⟩])
 (.cond (.t 159)
 (.seq .bad
 .ret)
 .skip))
 (.region [⟨some 162,.mv (.t 17),none⟩,⟨some 13,.mv (.t 162),none⟩]))))))))))
 (.region [⟨some 163,.bin .add (.t 101) (.k (.int .i64 1)),none⟩,⟨some 101,.mv (.t 163),none⟩]))))
def qF.c:SF:=(⟨_,by dsimp⟩:{c:SF//c=⟨172,[.t 6,.t 7],
 (cR [oG 6 (.mv (kU 0)),oG 7 (.mv (.k (.nilIface)))]
 (cI [oM 18 0,oG 19 (.nL false (.t 18) (.k (.string ⟨#[]⟩)))] 19
 (.seq .bad
 .ret)
 (cR [oM 21 1,oZ 22 .eql 21 0,oM 8 22]
 (cR [oM 23 0,oM 9 23]
 (.seq (.block 0
 (cR [oM 26 1,oX 27 .leq (kI 2) (.t 26),oM 28 27,⟨some 29,.mv (.t 1),some (28,true)⟩,⟨some 30,.bin .leq (.t 29) (kI 36),some (28,true)⟩,oG 31 (.pick (.t 28) (.t 30) kF),oM 25 31]
 (.cond (.t 25)
 .skip
 (cR [oM 33 1,oZ 34 .eql 33 0,oM 32 34]
 (.cond (.t 32)
 (cR [oI 1 10]
 (cR [oM 35 0,oG 36 (.nJ (.t 35) (kI 0)),oX 37 .eql (.t 36) (.k (.int .u8 48))]
 (.cond (.t 37)
 (.block 1
 (cR [oM 41 0,oG 42 (.mQ (.t 41)),oZ 43 .geq 42 3,oM 44 43,⟨some 45,.mv (.t 0),some (44,true)⟩,⟨some 46,.nJ (.t 45) (kI 1),some (44,true)⟩,⟨some 47,.call 284 [.t 46],some (44,true)⟩,⟨some 48,.bin .eql (.t 47) (.k (.int .u8 98)),some (44,true)⟩,oG 49 (.pick (.t 44) (.t 48) kF),oM 40 49]
 (.cond (.t 40)
 (cR [oI 1 2]
 (.region [oM 50 0,oG 51 (.kZ (.t 50) (some (kI 2)) none),oM 0 51]))
 (cR [oM 53 0,oG 54 (.mQ (.t 53)),oZ 55 .geq 54 3,oM 56 55,⟨some 57,.mv (.t 0),some (56,true)⟩,⟨some 58,.nJ (.t 57) (kI 1),some (56,true)⟩,⟨some 59,.call 284 [.t 58],some (56,true)⟩,⟨some 60,.bin .eql (.t 59) (.k (.int .u8 111)),some (56,true)⟩,oG 61 (.pick (.t 56) (.t 60) kF),oM 52 61]
 (.cond (.t 52)
 (cR [oI 1 8]
 (.region [oM 62 0,oG 63 (.kZ (.t 62) (some (kI 2)) none),oM 0 63]))
 (cR [oM 65 0,oG 66 (.mQ (.t 65)),oZ 67 .geq 66 3,oM 68 67,⟨some 69,.mv (.t 0),some (68,true)⟩,⟨some 70,.nJ (.t 69) (kI 1),some (68,true)⟩,⟨some 71,.call 284 [.t 70],some (68,true)⟩,⟨some 72,.bin .eql (.t 71) (.k (.int .u8 120)),some (68,true)⟩,oG 73 (.pick (.t 68) (.t 72) kF),oM 64 73]
 (.cond (.t 64)
 (cR [oI 1 16]
 (.region [oM 74 0,oG 75 (.kZ (.t 74) (some (kI 2)) none),oM 0 75]))
 (cR [oI 1 8]
 (.region [oM 38 0,oG 39 (.kZ (.t 38) (some (kI 1)) none),oM 0 39])))))))))
 .skip)))
 (.seq .bad
 .ret))))))
 (.seq (cR [oM 76 2,oZ 77 .eql 76 0]
 (.cond (.t 77)
 (.region [oI 2 64])
 (cR [oM 78 2,oZ 79 .lss 78 0,oM 80 79,⟨some 81,.mv (.t 2),some (80,false)⟩,⟨some 82,.bin .gtr (.t 81) (kI 64),some (80,false)⟩,oG 83 (.pick (.t 80) kT (.t 82))]
 (.cond (.t 83)
 (.seq .bad
 .ret)
 .skip))))
 (cR [oG 10 (.mv (kU 0))]
 (.seq (cR [oM 85 1]
 (.block 2
 (cR [oZ 91 .eql 85 10,oM 90 91]
 (.cond (.t 90)
 (.region [oG 10 (.mv (kU 0x199999999999999a))])
 (cR [oZ 93 .eql 85 16,oM 92 93]
 (.cond (.t 92)
 (.region [oG 10 (.mv (kU 0x1000000000000000))])
 (.region [oM 86 1,oG 87 (.cH .u64 (.t 86)),oX 88 .quo (kU 0xffffffffffffffff) (.t 87),oX 89 .add (.t 88) (kU 1),oM 10 89])))))))
 (cR [oM 94 2,oG 95 (.cH .u64 (.t 94)),oX 96 .shl (kU 1) (.t 95),oX 97 .sub (.t 96) (kU 1),oM 11 97]
 (cR [oG 12 (.mv kF)]
 (cR [oG 13 (.mv (kU 0))]
 (.seq (cR [oM 98 0,oG 99 (.rG (.t 98)),oG 100 (.len (.t 99)),oI 101 0]
 (.block 3
 (.loop qF.l1)))
 (cI [oM 164 12,oM 165 164,⟨some 166,.mv (.t 9),some (165,true)⟩,⟨some 167,.call 285 [.t 166],some (165,true)⟩,⟨some 168,.not (.t 167),some (165,true)⟩,oG 169 (.pick (.t 165) (.t 168) kF)] 169
 (.seq .bad
 .ret)
 (cR [oM 171 13,oM 6 171,oG 7 (.mv (.k (.nilIface)))]
 .ret))))))))))))))⟩}).1
theorem qF.aA:Ck Tryz.f267 qF.c:=cK
theorem qF.ent:EnN 267:=eN Tryz.func267
def Fl.c:SF:=(⟨_,by dsimp⟩:{c:SF//c=⟨13,[.t 4],
 (cR [oG 4 (.mv kF)]
 (cR [oG 5 (.load false 1 (.t 1) none),oM 6 0,oG 7 (.idx 3 (.t 5) (.t 6)),oD 8 0 7,oG 9 (.load false 1 (.t 8) none),oZ 10 .sub 9 1,oG 11 (.load false 1 (.t 2) none),oY 12 .geq 10 11,oM 4 12]
 .ret))⟩}).1
theorem Fl.aA:Ck Tryz.f275 Fl.c:=cK
theorem Fl.ent:EnN 275:=eN Tryz.func275
def Fh.c:SF:=(⟨_,by dsimp⟩:{c:SF//c=⟨5,[.t 2],
 (cR [oG 2 (.mv (.k (.int .u8 0)))]
 (cR [oM 3 0,oX 4 .or (.t 3) (.k (.int .u8 32)),oM 2 4]
 .ret))⟩}).1
theorem Fh.aA:Ck Tryz.f284 Fh.c:=cK
theorem Fh.ent:EnN 284:=eN Tryz.func284
end Go.Proofs.YtfcbohachbeamaaGreatDoor.E
end
