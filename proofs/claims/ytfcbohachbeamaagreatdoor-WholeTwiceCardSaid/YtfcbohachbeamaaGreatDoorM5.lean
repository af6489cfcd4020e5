/- What the laws' code answers: part 5 of what the rows of this seat lean on. -/
import Derived.Test.YtfcbohachbeamaaGreatDoorProg
import Derived.Test.YtfcbohachbeamaaGreatDoorM2
import Derived.KernelRfl
set_option linter.unusedVariables false
set_option linter.unusedSimpArgs false
set_option maxHeartbeats 8000000
set_option maxRecDepth 100000
namespace Go.VC
open Go
section
def zI:AC:= .v (.int .i64 0)
def zU:AC:= .v (.int .u64 0)
def zW:AC:= .v (.int .u32 0)
def zB:AC:= .v (.bool false)
def kI (n:Int):SA:= .k (.int .i64 n)
def kU (n:Int):SA:= .k (.int .u64 n)
def kT:SA:= .k (.bool true)
def kF:SA:= .k (.bool false)
def oG (n:Nat) (o:bA):bW:=⟨some n,o,none⟩
def oU (o:bA):bW:=⟨none,o,none⟩
def oM (n a:Nat):bW:=⟨some n,.mv (.t a),none⟩
def oL (n k a:Nat):bW:=⟨some n,.load true k (.t a) (some a),none⟩
def oF (n k a:Nat):bW:=⟨some n,.load false k (.t a) (some a),none⟩
def oV (n k a b:Nat):bW:=⟨some n,.load true k (.t a) (some b),none⟩
def oS (n k a b:Nat):bW:=⟨some n,.load false k (.t a) (some b),none⟩
def oD (n k a:Nat):bW:=⟨some n,.aI k (.t a),none⟩
def oJ (n a k:Nat):bW:=⟨some n,.ext (.t a) k,none⟩
def oB (n a:Nat):bW:=⟨some n,.box (.t a),none⟩
def oI (n:Nat) (i:Int):bW:=⟨some n,.mv (.k (.int .i64 i)),none⟩
def oA (n:Nat) (z:List AC):bW:=⟨some n,.alloc z,none⟩
def oP (k a b:Nat):bW:=⟨none,.store k (.t a) (.t b) a,none⟩
def oQ (k a b c:Nat):bW:=⟨none,.store k (.t a) (.t b) c,none⟩
def oX (n:Nat) (b:BinOp) (x y:SA):bW:=⟨some n,.bin b x y,none⟩
def oY (n:Nat) (b:BinOp) (x y:Nat):bW:=⟨some n,.bin b (.t x) (.t y),none⟩
def oZ (n:Nat) (b:BinOp) (x:Nat) (i:Int):bW:=⟨some n,.bin b (.t x) (.k (.int .i64 i)),none⟩
def oC (n f:Nat) (l:List SA):bW:=⟨some n,.call f l,none⟩
def cR (l:List bW) (a:SC):SC:= .seq (.region l) a
def cI (l:List bW) (n:Nat) (a b:SC):SC:= .seq (.seq (.region l) (.cond (.t n) a .skip)) b
end
end Go.VC
section
namespace Go.Proofs.YtfcbohachbeamaaGreatDoor.E
open Go.VC
abbrev EnN (n:Nat):Prop := ∀ args w,(callFunc n args).run Tryz.prog w=.ok (.enter n args) w
theorem eN {n:Nat} {fn:Func} (hf:Tryz.prog.funcs[n]?=some fn) (hn:(fn.name == "runtime.NumGoroutine")=false := by kernel_rfl) (hb:fn.body.isNone=false := by kernel_rfl):EnN n := enters hf hn hb
abbrev Ck (fn:Func) (c:SF):Prop := wK Tryz.prog fn c=true
theorem cK {fn:Func} {c:SF} (h:wK Tryz.prog fn c=true := by kernel_rfl):Ck fn c := h
attribute [local simp] Go.VC.zI Go.VC.zU Go.VC.zW Go.VC.zB Go.VC.kI Go.VC.kU Go.VC.kT Go.VC.kF Go.VC.oG Go.VC.oU Go.VC.oM Go.VC.oL Go.VC.oF Go.VC.oV Go.VC.oS Go.VC.oD Go.VC.oJ Go.VC.oB Go.VC.oI Go.VC.oA Go.VC.oP Go.VC.oQ Go.VC.oX Go.VC.oY Go.VC.oZ Go.VC.oC Go.VC.cR Go.VC.cI
def Er.c:SF:=(⟨_,by dsimp⟩:{c:SF//c=⟨9,[.t 4],
 (cR [oB 2 0,oB 3 1,oG 4 (.mv kF)]
 (cR [oL 5 2 2,oL 6 2 3,oC 7 39 [.t 5,.t 6],oZ 8 .eql 7 0,oM 4 8]
 .ret))⟩}).1
theorem Er.aA:Ck Tryz.f15 Er.c:=cK
theorem Er.ent:EnN 15:=eN Tryz.func15
def zM.c:SF:=(⟨_,by dsimp⟩:{c:SF//c=⟨18,[.c 2 true 2],
 (cR [oA 2 [zB,.nil .i64]]
 (cI [oM 4 0,oZ 5 .geq 4 0] 5
 (cR [oM 6 0,oG 7 (.cH .u64 (.t 6)),oC 8 40 [.t 7],oP 2 2 8]
 .ret)
 (cR [oM 9 0,oZ 10 .add 9 1,oG 11 (.neg (.t 10)),oG 12 (.cH .u64 (.t 11)),oC 13 40 [.t 12],oA 3 [zB,.nil .i64],oP 2 3 13]
 (cR [oL 14 2 3,oC 15 40 [kU 1],oC 16 25 [.t 14,.t 15],oC 17 23 [.t 16],oP 2 2 17]
 .ret))))⟩}).1
theorem zM.aA:Ck Tryz.f16 zM.c:=cK
theorem zM.ent:EnN 16:=eN Tryz.func16
def Mr.c:SF:=(⟨_,by dsimp⟩:{c:SF//c=⟨7,[.t 2],
 (cR [oB 1 0,oI 2 0]
 (cR [oD 3 0 1,oS 4 1 3 1,oZ 5 .quo 4 86400,oX 6 .add (kI 15020) (.t 5),oM 2 6]
 .ret))⟩}).1
theorem Mr.aA:Ck Tryz.f17 Mr.c:=cK
theorem Mr.ent:EnN 17:=eN Tryz.func17
def uH.c:SF:=(⟨_,by dsimp⟩:{c:SF//c=⟨33,[.c 2 true 2,.t 3],
 (cR [oB 1 0,oA 2 [zI,zU],oG 3 (.mv kF)]
 (cI [oL 5 2 1,oC 6 41 [kI 127],oC 7 39 [.t 5,.t 6],oZ 8 .geq 7 0,oM 9 8,⟨some 10,.load true 2 (.t 1) (some 1),some (9,false)⟩,⟨some 11,.call 41 [kI 127],some (9,false)⟩,⟨some 12,.call 23 [.t 11],some (9,false)⟩,⟨some 13,.call 39 [.t 10,.t 12],some (9,false)⟩,⟨some 14,.bin .lss (.t 13) (kI 0),some (9,false)⟩,oG 15 (.pick (.t 9) kT (.t 14))] 15
 (cR [oG 16 (.build [zI,zU] []),oP 2 2 16,oG 3 (.mv kF)]
 .ret)
 (cR [oD 17 1 1,oS 18 1 17 1,oM 4 18]
 (cI [oD 19 0 1,oS 20 1 19 1] 20
 (.region [oC 21 41 [kI 128],oD 22 1 1,oS 23 1 22 1,oG 24 (.build [zB,.nil .i64] [(1,1,.t 23)]),oC 25 38 [.t 21,.t 24],oG 26 (.part false 1 1 (.t 25)),oM 4 26])
 (cR [oM 27 4,oC 28 42 [.t 27,kI 4],oG 29 (.cH .i64 (.t 28)),oM 30 4,oC 31 42 [.t 30,kI 0],oG 32 (.build [zI,zU] [(0,1,.t 29),(1,1,.t 31)]),oP 2 2 32,oG 3 (.mv kT)]
 .ret)))))⟩}).1
theorem uH.aA:Ck Tryz.f18 uH.c:=cK
theorem uH.ent:EnN 18:=eN Tryz.func18
def aRS.c:SF:=(⟨_,by dsimp⟩:{c:SF//c=⟨8,[.c 2 true 2],
 (cR [oB 1 0,oA 2 [zB,.nil .i64]]
 (cR [oL 3 3 1,oC 4 43 [.t 3],oG 5 (.build [zI,zI,zI] [(0,1,kI 40587)]),oC 6 43 [.t 5],oC 7 38 [.t 4,.t 6],oP 2 2 7]
 .ret))⟩}).1
theorem aRS.aA:Ck Tryz.f19 aRS.c:=cK
theorem aRS.ent:EnN 19:=eN Tryz.func19
def Xc.l1:SC:=
 (.seq (.seq (.region [⟨some 6,.mv (.t 5),none⟩,⟨some 7,.aI 2 (.t 2),none⟩,⟨some 8,.load false 1 (.t 7) (some 2),none⟩,⟨some 9,.len (.t 8),none⟩,⟨some 10,.bin .lss (.t 6) (.t 9),none⟩])
 (.cond (.t 10)
 .skip
 (.exit 0)))
 (.seq (.block 1
 (.seq (.region [⟨some 13,.aI 2 (.t 2),none⟩,⟨some 14,.load false 1 (.t 13) (some 2),none⟩,⟨some 15,.mv (.t 5),none⟩,⟨some 16,.idx 2 (.t 14) (.t 15),none⟩,⟨some 17,.load true 2 (.t 16) none,none⟩,⟨some 18,.call 17 [(.t 17)],none⟩,⟨some 19,.bin .sub (.t 18) (.k (.int .i64 1)),none⟩,⟨some 20,.mv (.t 1),none⟩,⟨some 21,.bin .eql (.t 19) (.t 20),none⟩])
 (.cond (.t 21)
 (.seq (.region [⟨some 22,.aI 2 (.t 2),none⟩,⟨some 23,.load false 1 (.t 22) (some 2),none⟩,⟨some 24,.mv (.t 5),none⟩,⟨some 25,.idx 2 (.t 23) (.t 24),none⟩,⟨some 26,.aI 1 (.t 25),none⟩,⟨some 27,.load false 1 (.t 26) none,none⟩,⟨some 28,.aI 2 (.t 2),none⟩,⟨some 29,.load false 1 (.t 28) (some 2),none⟩,⟨some 30,.mv (.t 5),none⟩,⟨some 31,.bin .sub (.t 30) (.k (.int .i64 1)),none⟩,⟨some 32,.idx 2 (.t 29) (.t 31),none⟩,⟨some 33,.aI 1 (.t 32),none⟩,⟨some 34,.load false 1 (.t 33) none,none⟩,⟨some 35,.bin .sub (.t 27) (.t 34),none⟩,⟨some 4,.mv (.t 35),none⟩])
 .ret)
 .skip)))
 (.region [⟨some 11,.mv (.t 5),none⟩,⟨some 12,.bin .add (.t 11) (.k (.int .i64 1)),none⟩,⟨some 5,.mv (.t 12),none⟩])))
def Xc.c:SF:=(⟨_,by dsimp⟩:{c:SF//c=⟨36,[.t 4],
 (cR [oB 2 0,oI 4 0]
 (.seq (cR [oI 5 1]
 (.block 0
 (.loop Xc.l1)))
 (cR [oI 4 0]
 .ret)))⟩}).1
theorem Xc.aA:Ck Tryz.f20 Xc.c:=cK
theorem Xc.ent:EnN 20:=eN Tryz.func20
def aRU.c:SF:=(⟨_,by dsimp⟩:{c:SF//c=⟨40,[.t 4],
 (cR [oB 2 0,oB 3 1,oG 4 (.mv kF)]
 (cR [oD 5 0 2,oS 6 1 5 2,oD 7 0 3,oS 8 1 7 3,oY 9 .eql 6 8,oM 10 9,⟨some 11,.aI 1 (.t 2),some (10,true)⟩,⟨some 12,.load true 2 (.t 11) (some 2),some (10,true)⟩,⟨some 13,.aI 1 (.t 3),some (10,true)⟩,⟨some 14,.load true 2 (.t 13) (some 3),some (10,true)⟩,⟨some 15,.eqs false [.i64,.u64] (.t 12) (.t 14),some (10,true)⟩,oG 16 (.pick (.t 10) (.t 15) kF),oM 17 16,⟨some 18,.aI 3 (.t 2),some (17,true)⟩,⟨some 19,.load true 3 (.t 18) (some 2),some (17,true)⟩,⟨some 20,.aI 3 (.t 3),some (17,true)⟩,⟨some 21,.load true 3 (.t 20) (some 3),some (17,true)⟩,⟨some 22,.eqs false [.i64,.i64,.i64] (.t 19) (.t 21),some (17,true)⟩,oG 23 (.pick (.t 17) (.t 22) kF),oM 24 23,⟨some 25,.aI 7 (.t 2),some (24,true)⟩,⟨some 26,.load false 1 (.t 25) (some 2),some (24,true)⟩,⟨some 27,.aI 7 (.t 3),some (24,true)⟩,⟨some 28,.load false 1 (.t 27) (some 3),some (24,true)⟩,⟨some 29,.bin .eql (.t 26) (.t 28),some (24,true)⟩,oG 30 (.pick (.t 24) (.t 29) kF),oM 31 30,⟨some 32,.aI 6 (.t 2),some (31,true)⟩,⟨some 33,.load false 1 (.t 32) (some 2),some (31,true)⟩,⟨some 34,.str (.t 33),some (31,true)⟩,⟨some 35,.aI 6 (.t 3),some (31,true)⟩,⟨some 36,.load false 1 (.t 35) (some 3),some (31,true)⟩,⟨some 37,.str (.t 36),some (31,true)⟩,⟨some 38,.nL false (.t 34) (.t 37),some (31,true)⟩,oG 39 (.pick (.t 31) (.t 38) kF),oM 4 39]
 .ret))⟩}).1
theorem aRU.aA:Ck Tryz.f21 aRU.c:=cK
theorem aRU.ent:EnN 21:=eN Tryz.func21
def xC.c:SF:=(⟨_,by dsimp⟩:{c:SF//c=⟨15,[.c 2 true 2],
 (cR [oB 1 0,oA 2 [zB,.nil .i64]]
 (cR [oD 3 0 1,oS 4 1 3 1,oG 5 (.not (.t 4)),oM 6 5,⟨some 7,.aI 1 (.t 1),some (6,true)⟩,⟨some 8,.load false 1 (.t 7) (some 1),some (6,true)⟩,⟨some 9,.len (.t 8),some (6,true)⟩,⟨some 10,.bin .gtr (.t 9) (kI 0),some (6,true)⟩,oG 11 (.pick (.t 6) (.t 10) kF),oD 12 1 1,oS 13 1 12 1,oG 14 (.build [zB,.nil .i64] [(0,1,.t 11),(1,1,.t 13)]),oP 2 2 14]
 .ret))⟩}).1
theorem xC.aA:Ck Tryz.f23 xC.c:=cK
theorem xC.ent:EnN 23:=eN Tryz.func23
def Cq.c:SF:=(⟨_,by dsimp⟩:{c:SF//c=⟨14,[.c 2 true 2],
 (cR [oB 1 0,oA 2 [zB,.nil .i64]]
 (cR [oD 4 0 1,oS 5 1 4 1,oC 6 16 [.t 5],oA 3 [zB,.nil .i64],oP 2 3 6]
 (cR [oL 7 2 3,oC 8 41 [kI 64],oC 9 44 [.t 7,.t 8],oD 10 1 1,oS 11 1 10 1,oC 12 40 [.t 11],oC 13 25 [.t 9,.t 12],oP 2 2 13]
 .ret)))⟩}).1
theorem Cq.aA:Ck Tryz.f24 Cq.c:=cK
theorem Cq.ent:EnN 24:=eN Tryz.func24
def pA.c:SF:=(⟨_,by dsimp⟩:{c:SF//c=⟨41,[.c 4 true 2],
 (cR [oB 2 0,oB 3 1,oA 4 [zB,.nil .i64]]
 (cI [oD 6 0 2,oS 7 1 6 2,oD 8 0 3,oS 9 1 8 3,oG 10 (.qD false (.t 7) (.t 9))] 10
 (cR [oD 11 0 2,oS 12 1 11 2,oD 13 1 2,oS 14 1 13 2,oD 15 1 3,oS 16 1 15 3,oC 17 45 [.t 14,.t 16],oG 18 (.build [zB,.nil .i64] [(0,1,.t 12),(1,1,.t 17)]),oP 2 4 18]
 .ret)
 (cI [oD 19 1 2,oS 20 1 19 2,oD 21 1 3,oS 22 1 21 3,oC 23 46 [.t 20,.t 22],oZ 24 .lss 23 0] 24
 (.region [oL 25 2 3,oL 26 2 2,oP 2 2 25,oP 2 3 26])
 (cR [oD 27 1 2,oS 28 1 27 2,oD 29 1 3,oS 30 1 29 3,oC 31 47 [.t 28,.t 30],oM 5 31]
 (cR [oD 32 0 2,oS 33 1 32 2,oM 34 33,⟨some 35,.mv (.t 5),some (34,true)⟩,⟨some 36,.len (.t 35),some (34,true)⟩,⟨some 37,.bin .gtr (.t 36) (kI 0),some (34,true)⟩,oG 38 (.pick (.t 34) (.t 37) kF),oM 39 5,oG 40 (.build [zB,.nil .i64] [(0,1,.t 38),(1,1,.t 39)]),oP 2 4 40]
 .ret)))))⟩}).1
theorem pA.aA:Ck Tryz.f25 pA.c:=cK
theorem pA.ent:EnN 25:=eN Tryz.func25
def kK.l1:SC:=
 (.seq (.seq (.region [⟨some 6,.mv (.t 4),none⟩,⟨some 7,.aI 2 (.t 1),none⟩,⟨some 8,.load false 1 (.t 7) (some 1),none⟩,⟨some 9,.len (.t 8),none⟩,⟨some 10,.bin .lss (.t 6) (.t 9),none⟩])
 (.cond (.t 10)
 .skip
 (.exit 0)))
 (.seq (.block 1
 (.seq (.region [⟨some 13,.aI 2 (.t 1),none⟩,⟨some 14,.load false 1 (.t 13) (some 1),none⟩,⟨some 15,.mv (.t 4),none⟩,⟨some 16,.yA 2 (.t 14) none (some (.t 15)),none⟩,⟨some 17,.aI 2 (.t 1),none⟩,⟨some 18,.load false 1 (.t 17) (some 1),none⟩,⟨some 19,.mv (.t 4),none⟩,⟨some 20,.idx 2 (.t 18) (.t 19),none⟩,⟨some 21,.load true 2 (.t 20) none,none⟩,⟨some 22,.call 50 [(.t 16),(.t 21)],none⟩,⟨some 23,.not (.t 22),none⟩])
 (.cond (.t 23)
 (.seq (.region [⟨some 24,.mv (.t 4),none⟩,⟨some 2,.mv (.t 24),none⟩,⟨some 3,.mv (.k (.bool false)),none⟩])
 .ret)
 .skip)))
 (.region [⟨some 11,.mv (.t 4),none⟩,⟨some 12,.bin .add (.t 11) (.k (.int .i64 1)),none⟩,⟨some 4,.mv (.t 12),none⟩])))
def kK.c:SF:=(⟨_,by dsimp⟩:{c:SF//c=⟨54,[.t 2,.t 3],
 (cR [oB 1 0,oI 2 0,oG 3 (.mv kF)]
 (.seq (cR [oI 4 0]
 (.block 0
 (.loop kK.l1)))
 (cR [oD 25 2 1,oS 26 1 25 1,oG 27 (.len (.t 26)),oZ 28 .gtr 27 0,oM 29 28,⟨some 30,.aI 0 (.t 1),some (29,true)⟩,⟨some 31,.load false 1 (.t 30) (some 1),some (29,true)⟩,⟨some 32,.bin .geq (.t 31) (kI 0),some (29,true)⟩,oG 33 (.pick (.t 29) (.t 32) kF),oM 34 33,⟨some 35,.aI 0 (.t 1),some (34,true)⟩,⟨some 36,.load false 1 (.t 35) (some 1),some (34,true)⟩,⟨some 37,.bin .lss (.t 36) (kI 0xde0b6b3a7640000),some (34,true)⟩,oG 38 (.pick (.t 34) (.t 37) kF),oM 39 38,⟨some 40,.aI 1 (.t 1),some (39,true)⟩,⟨some 41,.load false 1 (.t 40) (some 1),some (39,true)⟩,⟨some 42,.bin .geq (.t 41) (kI 0),some (39,true)⟩,oG 43 (.pick (.t 39) (.t 42) kF),oM 44 43,⟨some 45,.aI 1 (.t 1),some (44,true)⟩,⟨some 46,.load false 1 (.t 45) (some 1),some (44,true)⟩,⟨some 47,.bin .lss (.t 46) (kI 0xde0b6b3a7640000),some (44,true)⟩,oG 48 (.pick (.t 44) (.t 47) kF),oM 5 48]
 (cI [oM 49 5,oG 50 (.not (.t 49))] 50
 (cR [oD 51 2 1,oS 52 1 51 1,oG 53 (.len (.t 52)),oM 2 53,oG 3 (.mv kF)]
 .ret)
 (cR [oI 2 0,oG 3 (.mv kT)]
 .ret)))))⟩}).1
theorem kK.aA:Ck Tryz.f28 kK.c:=cK
theorem kK.ent:EnN 28:=eN Tryz.func28
def iD.l1:SC:=
 (.seq (.seq (.region [⟨some 19,.mv (.t 4),none⟩,⟨some 20,.aI 2 (.t 1),none⟩,⟨some 21,.load false 1 (.t 20) (some 1),none⟩,⟨some 22,.len (.t 21),none⟩,⟨some 23,.bin .lss (.t 19) (.t 22),none⟩])
 (.cond (.t 23)
 .skip
 (.exit 0)))
 (.seq (.block 1
 (.region [⟨some 26,.mv (.t 3),none⟩,⟨some 27,.aI 2 (.t 1),none⟩,⟨some 28,.load false 1 (.t 27) (some 1),none⟩,⟨some 29,.mv (.t 4),none⟩,⟨some 30,.idx 2 (.t 28) (.t 29),none⟩,⟨some 31,.aI 0 (.t 30),none⟩,⟨some 32,.load false 1 (.t 31) none,none⟩,⟨some 33,.call 53 [(.t 32)],none⟩,⟨some 34,.cat (.t 26) (.t 33),none⟩,⟨some 35,.cat (.t 34) (.k (.string ⟨#[9]⟩)),none⟩,⟨some 36,.aI 2 (.t 1),none⟩,⟨some 37,.load false 1 (.t 36) (some 1),none⟩,⟨some 38,.mv (.t 4),none⟩,⟨some 39,.idx 2 (.t 37) (.t 38),none⟩,⟨some 40,.aI 1 (.t 39),none⟩,⟨some 41,.load false 1 (.t 40) none,none⟩,⟨some 42,.call 53 [(.t 41)],none⟩,⟨some 43,.cat (.t 35) (.t 42),none⟩,⟨some 44,.cat (.t 43) (.k (.string ⟨#[10]⟩)),none⟩,⟨some 3,.mv (.t 44),none⟩]))
 (.region [⟨some 24,.mv (.t 4),none⟩,⟨some 25,.bin .add (.t 24) (.k (.int .i64 1)),none⟩,⟨some 4,.mv (.t 25),none⟩])))
def iD.l2:SC:=
 (.seq (.seq (.region [⟨some 57,.mv (.t 7),none⟩,⟨some 58,.bin .geq (.t 57) (.k (.int .i64 0)),none⟩])
 (.cond (.t 58)
 .skip
 (.exit 4)))
 (.seq (.block 5
 (.seq (.region [⟨some 61,.mv (.t 6),none⟩,⟨some 62,.dN 1 5 (.t 5) (.t 61),none⟩,⟨some 63,.load false 1 (.t 62) (some 5),none⟩,⟨some 64,.mv (.t 7),none⟩,⟨some 65,.cH .u64 (.t 64),none⟩,⟨some 66,.bin .shr (.t 63) (.t 65),none⟩,⟨some 67,.bin .and (.t 66) (.k (.int .i64 15)),none⟩,⟨some 8,.mv (.t 67),none⟩])
 (.region [⟨some 68,.mv (.t 3),none⟩,⟨some 69,.mv (.t 8),none⟩,⟨some 70,.mv (.t 8),none⟩,⟨some 71,.bin .add (.t 70) (.k (.int .i64 1)),none⟩,⟨some 72,.kZ (.k (.string ⟨#[48,49,50,51,52,53,54,55,56,57,97,98,99,100,101,102]⟩)) (some (.t 69)) (some (.t 71)),none⟩,⟨some 73,.cat (.t 68) (.t 72),none⟩,⟨some 3,.mv (.t 73),none⟩])))
 (.region [⟨some 59,.mv (.t 7),none⟩,⟨some 60,.bin .sub (.t 59) (.k (.int .i64 4)),none⟩,⟨some 7,.mv (.t 60),none⟩])))
def iD.l3:SC:=
 (.seq (.seq (.region [⟨some 51,.mv (.t 6),none⟩,⟨some 52,.bin .lss (.t 51) (.k (.int .i64 5)),none⟩])
 (.cond (.t 52)
 .skip
 (.exit 2)))
 (.seq (.block 3
 (.seq (.region [⟨some 55,.mv (.t 3),none⟩,⟨some 56,.cat (.t 55) (.k (.string ⟨#[9]⟩)),none⟩,⟨some 3,.mv (.t 56),none⟩])
 (.seq (.region [⟨some 7,.mv (.k (.int .i64 28)),none⟩])
 (.block 4
 (.loop iD.l2)))))
 (.region [⟨some 53,.mv (.t 6),none⟩,⟨some 54,.bin .add (.t 53) (.k (.int .i64 1)),none⟩,⟨some 6,.mv (.t 54),none⟩])))
def iD.c:SF:=(⟨_,by dsimp⟩:{c:SF//c=⟨76,[.t 2],
 (cR [oB 1 0,oG 2 (.mv (.k (.string ⟨#[]⟩)))]
 (cR [oD 9 0 1,oS 10 1 9 1,oC 11 53 [.t 10],oG 12 (.cat (.k (.string ⟨#[35,36,9]⟩)) (.t 11)),oG 13 (.cat (.t 12) (.k (.string ⟨#[10,35,64,9]⟩))),oD 14 1 1,oS 15 1 14 1,oC 16 53 [.t 15],oG 17 (.cat (.t 13) (.t 16)),oG 18 (.cat (.t 17) (.k (.string ⟨#[10]⟩))),oM 3 18]
 (.seq (cR [oI 4 0]
 (.block 0
 (.loop iD.l1)))
 (cR [oL 45 3 1,oC 46 52 [.t 45],oG 47 (.rG (.t 46)),oC 48 51 [.t 47],oA 5 [zI,zI,zI,zI,zI],oP 5 5 48]
 (cR [oM 49 3,oG 50 (.cat (.t 49) (.k (.string ⟨#[35,104]⟩))),oM 3 50]
 (.seq (cR [oI 6 0]
 (.block 2
 (.loop iD.l3)))
 (cR [oM 74 3,oG 75 (.cat (.t 74) (.k (.string ⟨#[10]⟩))),oM 2 75]
 .ret)))))))⟩}).1
theorem iD.aA:Ck Tryz.f29 iD.c:=cK
theorem iD.ent:EnN 29:=eN Tryz.func29
def Db.c:SF:=(⟨_,by dsimp⟩:{c:SF//c=⟨9,[.c 4 true 2],
 (cR [oB 2 0,oB 3 1,oA 4 [zB,.nil .i64]]
 (cR [oL 5 2 2,oL 6 2 3,oC 7 23 [.t 6],oC 8 25 [.t 5,.t 7],oP 2 4 8]
 .ret))⟩}).1
theorem Db.aA:Ck Tryz.f38 Db.c:=cK
theorem Db.ent:EnN 38:=eN Tryz.func38
def uI.c:SF:=(⟨_,by dsimp⟩:{c:SF//c=⟨24,[.t 4],
 (cR [oB 2 0,oB 3 1,oI 4 0]
 (cI [oD 5 0 2,oS 6 1 5 2,oD 7 0 3,oS 8 1 7 3,oG 9 (.qD true (.t 6) (.t 8))] 9
 (cI [oD 10 0 2,oS 11 1 10 2] 11
 (cR [oI 4 (-1)]
 .ret)
 (cR [oI 4 1]
 .ret))
 (cI [oD 12 0 2,oS 13 1 12 2] 13
 (cR [oD 14 1 3,oS 15 1 14 3,oD 16 1 2,oS 17 1 16 2,oC 18 46 [.t 15,.t 17],oM 4 18]
 .ret)
 (cR [oD 19 1 2,oS 20 1 19 2,oD 21 1 3,oS 22 1 21 3,oC 23 46 [.t 20,.t 22],oM 4 23]
 .ret))))⟩}).1
theorem uI.aA:Ck Tryz.f39 uI.c:=cK
theorem uI.ent:EnN 39:=eN Tryz.func39
def Bw.c:SF:=(⟨_,by dsimp⟩:{c:SF//c=⟨20,[.c 2 true 2],
 (cR [oA 2 [zB,.nil .i64]]
 (cR [oM 3 0,oX 4 .and (.t 3) (kU 65535),oG 5 (.cH .i64 (.t 4)),oM 6 0,oX 7 .shr (.t 6) (kU 16),oX 8 .and (.t 7) (kU 65535),oG 9 (.cH .i64 (.t 8)),oM 10 0,oX 11 .shr (.t 10) (kU 32),oX 12 .and (.t 11) (kU 65535),oG 13 (.cH .i64 (.t 12)),oM 14 0,oX 15 .shr (.t 14) (kU 48),oG 16 (.cH .i64 (.t 15)),oG 17 (.fX ⟨3,1,some .i64⟩ [zI,zI,zI,zI] 4 [(0,1,.t 5),(1,1,.t 9),(2,1,.t 13),(3,1,.t 16)]),oG 18 (.lO 68 [.t 17]),oG 19 (.build [zB,.nil .i64] [(1,1,.t 18)]),oP 2 2 19]
 .ret))⟩}).1
theorem Bw.aA:Ck Tryz.f40 Bw.c:=cK
theorem Bw.ent:EnN 40:=eN Tryz.func40
def wV.c:SF:=(⟨_,by dsimp⟩:{c:SF//c=⟨18,[.c 2 true 2],
 (cR [oA 2 [zB,.nil .i64]]
 (cR [oM 4 0,oZ 5 .quo 4 16,oZ 6 .add 5 1,oG 7 (.rL ⟨3,1,some .i64⟩ (.int .i64 0) (.t 6)),oM 3 7]
 (cR [oM 8 3,oM 9 0,oZ 10 .quo 9 16,oM 11 0,oZ 12 .rem 11 16,oG 13 (.cH .u64 (.t 12)),oX 14 .shl (kI 1) (.t 13),oG 15 (.idx 1 (.t 8) (.t 10)),oQ 1 15 14 7]
 (cR [oM 16 3,oG 17 (.build [zB,.nil .i64] [(1,1,.t 16)]),oP 2 2 17]
 .ret))))⟩}).1
theorem wV.aA:Ck Tryz.f41 wV.c:=cK
theorem wV.ent:EnN 41:=eN Tryz.func41
def qN.l1:SC:=
 (.seq (.seq (.region [⟨some 7,.mv (.t 6),none⟩,⟨some 8,.bin .geq (.t 7) (.k (.int .i64 0)),none⟩])
 (.cond (.t 8)
 .skip
 (.exit 0)))
 (.seq (.block 1
 (.seq (.region [⟨some 11,.mv (.t 5),none⟩,⟨some 12,.bin .shl (.t 11) (.k (.int .u64 16)),none⟩,⟨some 5,.mv (.t 12),none⟩])
 (.seq (.region [⟨some 13,.mv (.t 1),none⟩,⟨some 14,.mv (.t 6),none⟩,⟨some 15,.bin .add (.t 13) (.t 14),none⟩,⟨some 16,.mv (.t 0),none⟩,⟨some 17,.len (.t 16),none⟩,⟨some 18,.bin .lss (.t 15) (.t 17),none⟩])
 (.cond (.t 18)
 (.region [⟨some 19,.mv (.t 5),none⟩,⟨some 20,.mv (.t 0),none⟩,⟨some 21,.mv (.t 1),none⟩,⟨some 22,.mv (.t 6),none⟩,⟨some 23,.bin .add (.t 21) (.t 22),none⟩,⟨some 24,.idx 1 (.t 20) (.t 23),none⟩,⟨some 25,.load false 1 (.t 24) none,none⟩,⟨some 26,.cH .u64 (.t 25),none⟩,⟨some 27,.bin .add (.t 19) (.t 26),none⟩,⟨some 5,.mv (.t 27),none⟩])
 .skip))))
 (.region [⟨some 9,.mv (.t 6),none⟩,⟨some 10,.bin .sub (.t 9) (.k (.int .i64 1)),none⟩,⟨some 6,.mv (.t 10),none⟩])))
def qN.c:SF:=(⟨_,by dsimp⟩:{c:SF//c=⟨29,[.t 4],
 (cR [oG 4 (.mv (kU 0))]
 (cR [oG 5 (.mv (kU 0))]
 (.seq (cR [oI 6 3]
 (.block 0
 (.loop qN.l1)))
 (cR [oM 28 5,oM 4 28]
 .ret))))⟩}).1
theorem qN.aA:Ck Tryz.f42 qN.c:=cK
theorem qN.ent:EnN 42:=eN Tryz.func42
def aPA.c:SF:=(⟨_,by dsimp⟩:{c:SF//c=⟨20,[.c 2 true 2],
 (cR [oB 1 0,oA 2 [zB,.nil .i64]]
 (cR [oD 4 0 1,oS 5 1 4 1,oC 6 16 [.t 5],oC 7 16 [kI 86400],oC 8 44 [.t 6,.t 7],oD 9 1 1,oS 10 1 9 1,oC 11 16 [.t 10],oC 12 25 [.t 8,.t 11],oA 3 [zB,.nil .i64],oP 2 3 12]
 (cR [oL 13 2 3,oC 14 16 [kI 0xde0b6b3a7640000],oC 15 44 [.t 13,.t 14],oD 16 2 1,oS 17 1 16 1,oC 18 16 [.t 17],oC 19 25 [.t 15,.t 18],oP 2 2 19]
 .ret)))⟩}).1
theorem aPA.aA:Ck Tryz.f43 aPA.c:=cK
theorem aPA.ent:EnN 43:=eN Tryz.func43
def lH.l1:SC:=
 (.seq (.seq (.region [⟨some 25,.mv (.t 8),none⟩,⟨some 26,.aI 1 (.t 3),none⟩,⟨some 27,.load false 1 (.t 26) (some 3),none⟩,⟨some 28,.len (.t 27),none⟩,⟨some 29,.bin .lss (.t 25) (.t 28),none⟩])
 (.cond (.t 29)
 .skip
 (.exit 2)))
 (.seq (.block 3
 (.seq (.region [⟨some 32,.mv (.t 5),none⟩,⟨some 33,.mv (.t 6),none⟩,⟨some 34,.mv (.t 8),none⟩,⟨some 35,.bin .add (.t 33) (.t 34),none⟩,⟨some 36,.idx 1 (.t 32) (.t 35),none⟩,⟨some 37,.load false 1 (.t 36) (some 17),none⟩,⟨some 38,.aI 1 (.t 2),none⟩,⟨some 39,.load false 1 (.t 38) (some 2),none⟩,⟨some 40,.mv (.t 6),none⟩,⟨some 41,.idx 1 (.t 39) (.t 40),none⟩,⟨some 42,.load false 1 (.t 41) none,none⟩,⟨some 43,.aI 1 (.t 3),none⟩,⟨some 44,.load false 1 (.t 43) (some 3),none⟩,⟨some 45,.mv (.t 8),none⟩,⟨some 46,.idx 1 (.t 44) (.t 45),none⟩,⟨some 47,.load false 1 (.t 46) none,none⟩,⟨some 48,.bin .mul (.t 42) (.t 47),none⟩,⟨some 49,.bin .add (.t 37) (.t 48),none⟩,⟨some 50,.mv (.t 7),none⟩,⟨some 51,.bin .add (.t 49) (.t 50),none⟩,⟨some 9,.mv (.t 51),none⟩])
 (.seq (.region [⟨some 52,.mv (.t 5),none⟩,⟨some 53,.mv (.t 6),none⟩,⟨some 54,.mv (.t 8),none⟩,⟨some 55,.bin .add (.t 53) (.t 54),none⟩,⟨some 56,.mv (.t 9),none⟩,⟨some 57,.bin .rem (.t 56) (.k (.int .i64 65536)),none⟩,⟨some 58,.idx 1 (.t 52) (.t 55),none⟩,⟨none,.store 1 (.t 58) (.t 57) 17,none⟩])
 (.region [⟨some 59,.mv (.t 9),none⟩,⟨some 60,.bin .quo (.t 59) (.k (.int .i64 65536)),none⟩,⟨some 7,.mv (.t 60),none⟩]))))
 (.region [⟨some 30,.mv (.t 8),none⟩,⟨some 31,.bin .add (.t 30) (.k (.int .i64 1)),none⟩,⟨some 8,.mv (.t 31),none⟩])))
def lH.l2:SC:=
 (.seq (.seq (.region [⟨some 18,.mv (.t 6),none⟩,⟨some 19,.aI 1 (.t 2),none⟩,⟨some 20,.load false 1 (.t 19) (some 2),none⟩,⟨some 21,.len (.t 20),none⟩,⟨some 22,.bin .lss (.t 18) (.t 21),none⟩])
 (.cond (.t 22)
 .skip
 (.exit 0)))
 (.seq (.block 1
 (.seq (.region [⟨some 7,.mv (.k (.int .i64 0)),none⟩])
 (.seq (.seq (.region [⟨some 8,.mv (.k (.int .i64 0)),none⟩])
 (.block 2
 (.loop lH.l1)))
 (.region [⟨some 61,.mv (.t 5),none⟩,⟨some 62,.mv (.t 6),none⟩,⟨some 63,.aI 1 (.t 3),none⟩,⟨some 64,.load false 1 (.t 63) (some 3),none⟩,⟨some 65,.len (.t 64),none⟩,⟨some 66,.bin .add (.t 62) (.t 65),none⟩,⟨some 67,.mv (.t 7),none⟩,⟨some 68,.idx 1 (.t 61) (.t 66),none⟩,⟨none,.store 1 (.t 68) (.t 67) 17,none⟩]))))
 (.region [⟨some 23,.mv (.t 6),none⟩,⟨some 24,.bin .add (.t 23) (.k (.int .i64 1)),none⟩,⟨some 6,.mv (.t 24),none⟩])))
def lH.c:SF:=(⟨_,by dsimp⟩:{c:SF//c=⟨83,[.c 4 true 2],
 (cR [oB 2 0,oB 3 1,oA 4 [zB,.nil .i64]]
 (cR [oD 10 1 2,oS 11 1 10 2,oG 12 (.len (.t 11)),oD 13 1 3,oS 14 1 13 3,oG 15 (.len (.t 14)),oY 16 .add 12 15,oG 17 (.rL ⟨3,1,some .i64⟩ (.int .i64 0) (.t 16)),oM 5 17]
 (.seq (cR [oI 6 0]
 (.block 0
 (.loop lH.l2)))
 (cR [oM 69 5,oG 70 (.lO 68 [.t 69]),oM 5 70]
 (cR [oD 71 0 2,oS 72 1 71 2,oD 73 0 3,oS 74 1 73 3,oG 75 (.qD true (.t 72) (.t 74)),oM 76 75,⟨some 77,.mv (.t 5),some (76,true)⟩,⟨some 78,.len (.t 77),some (76,true)⟩,⟨some 79,.bin .gtr (.t 78) (kI 0),some (76,true)⟩,oG 80 (.pick (.t 76) (.t 79) kF),oM 81 5,oG 82 (.build [zB,.nil .i64] [(0,1,.t 80),(1,1,.t 81)]),oP 2 4 82]
 .ret)))))⟩}).1
theorem lH.aA:Ck Tryz.f44 lH.c:=cK
theorem lH.ent:EnN 44:=eN Tryz.func44
def iT.l1:SC:=
 (.seq (.seq (.region [⟨some 8,.mv (.t 7),none⟩,⟨some 9,.mv (.t 0),none⟩,⟨some 10,.len (.t 9),none⟩,⟨some 11,.bin .lss (.t 8) (.t 10),none⟩,⟨some 12,.mv (.t 11),none⟩,⟨some 13,.mv (.t 7),some (12,false)⟩,⟨some 14,.mv (.t 1),some (12,false)⟩,⟨some 15,.len (.t 14),some (12,false)⟩,⟨some 16,.bin .lss (.t 13) (.t 15),some (12,false)⟩,⟨some 17,.pick (.t 12) (.k (.bool true)) (.t 16),none⟩,⟨some 18,.mv (.t 17),none⟩,⟨some 19,.mv (.t 6),some (18,false)⟩,⟨some 20,.bin .gtr (.t 19) (.k (.int .i64 0)),some (18,false)⟩,⟨some 21,.pick (.t 18) (.k (.bool true)) (.t 20),none⟩])
 (.cond (.t 21)
 .skip
 (.exit 0)))
 (.seq (.block 1
 (.seq (.seq (.region [⟨some 24,.mv (.t 7),none⟩,⟨some 25,.mv (.t 0),none⟩,⟨some 26,.len (.t 25),none⟩,⟨some 27,.bin .lss (.t 24) (.t 26),none⟩])
 (.cond (.t 27)
 (.region [⟨some 28,.mv (.t 6),none⟩,⟨some 29,.mv (.t 0),none⟩,⟨some 30,.mv (.t 7),none⟩,⟨some 31,.idx 1 (.t 29) (.t 30),none⟩,⟨some 32,.load false 1 (.t 31) none,none⟩,⟨some 33,.bin .add (.t 28) (.t 32),none⟩,⟨some 6,.mv (.t 33),none⟩])
 .skip))
 (.seq (.seq (.region [⟨some 34,.mv (.t 7),none⟩,⟨some 35,.mv (.t 1),none⟩,⟨some 36,.len (.t 35),none⟩,⟨some 37,.bin .lss (.t 34) (.t 36),none⟩])
 (.cond (.t 37)
 (.region [⟨some 38,.mv (.t 6),none⟩,⟨some 39,.mv (.t 1),none⟩,⟨some 40,.mv (.t 7),none⟩,⟨some 41,.idx 1 (.t 39) (.t 40),none⟩,⟨some 42,.load false 1 (.t 41) none,none⟩,⟨some 43,.bin .add (.t 38) (.t 42),none⟩,⟨some 6,.mv (.t 43),none⟩])
 .skip))
 (.seq (.region [⟨some 44,.mv (.t 5),none⟩,⟨some 45,.mv (.t 6),none⟩,⟨some 46,.bin .rem (.t 45) (.k (.int .i64 65536)),none⟩,⟨some 47,.fX ⟨3,1,some .i64⟩ [.v (.int .i64 0)] 1 [(0,1,(.t 46))],none⟩,⟨some 48,.app ⟨3,1,some .i64⟩ (.t 44) (.t 47),none⟩,⟨some 5,.mv (.t 48),none⟩])
 (.region [⟨some 49,.mv (.t 6),none⟩,⟨some 50,.bin .quo (.t 49) (.k (.int .i64 65536)),none⟩,⟨some 6,.mv (.t 50),none⟩])))))
 (.region [⟨some 22,.mv (.t 7),none⟩,⟨some 23,.bin .add (.t 22) (.k (.int .i64 1)),none⟩,⟨some 7,.mv (.t 23),none⟩])))
def iT.c:SF:=(⟨_,by dsimp⟩:{c:SF//c=⟨53,[.t 4],
 (cR [oG 4 (.mv (.nil .i64))]
 (cR [oG 5 (.mv (.nil .i64))]
 (cR [oI 6 0]
 (.seq (cR [oI 7 0]
 (.block 0
 (.loop iT.l1)))
 (cR [oM 51 5,oG 52 (.lO 68 [.t 51]),oM 4 52]
 .ret)))))⟩}).1
theorem iT.aA:Ck Tryz.f45 iT.c:=cK
theorem iT.ent:EnN 45:=eN Tryz.func45
def mC.l1:SC:=
 (.seq (.seq (.region [⟨some 19,.mv (.t 5),none⟩,⟨some 20,.bin .geq (.t 19) (.k (.int .i64 0)),none⟩])
 (.cond (.t 20)
 .skip
 (.exit 0)))
 (.seq (.block 1
 (.seq (.seq (.region [⟨some 23,.mv (.t 0),none⟩,⟨some 24,.mv (.t 5),none⟩,⟨some 25,.idx 1 (.t 23) (.t 24),none⟩,⟨some 26,.load false 1 (.t 25) none,none⟩,⟨some 27,.mv (.t 1),none⟩,⟨some 28,.mv (.t 5),none⟩,⟨some 29,.idx 1 (.t 27) (.t 28),none⟩,⟨some 30,.load false 1 (.t 29) none,none⟩,⟨some 31,.bin .lss (.t 26) (.t 30),none⟩])
 (.cond (.t 31)
 (.seq (.region [⟨some 4,.mv (.k (.int .i64 (-1))),none⟩])
 .ret)
 .skip))
 (.seq (.region [⟨some 32,.mv (.t 0),none⟩,⟨some 33,.mv (.t 5),none⟩,⟨some 34,.idx 1 (.t 32) (.t 33),none⟩,⟨some 35,.load false 1 (.t 34) none,none⟩,⟨some 36,.mv (.t 1),none⟩,⟨some 37,.mv (.t 5),none⟩,⟨some 38,.idx 1 (.t 36) (.t 37),none⟩,⟨some 39,.load false 1 (.t 38) none,none⟩,⟨some 40,.bin .gtr (.t 35) (.t 39),none⟩])
 (.cond (.t 40)
 (.seq (.region [⟨some 4,.mv (.k (.int .i64 1)),none⟩])
 .ret)
 .skip))))
 (.region [⟨some 21,.mv (.t 5),none⟩,⟨some 22,.bin .sub (.t 21) (.k (.int .i64 1)),none⟩,⟨some 5,.mv (.t 22),none⟩])))
def mC.c:SF:=(⟨_,by dsimp⟩:{c:SF//c=⟨41,[.t 4],
 (cR [oI 4 0]
 (cI [oM 6 0,oG 7 (.len (.t 6)),oM 8 1,oG 9 (.len (.t 8)),oY 10 .neq 7 9] 10
 (cI [oM 11 0,oG 12 (.len (.t 11)),oM 13 1,oG 14 (.len (.t 13)),oY 15 .lss 12 14] 15
 (cR [oI 4 (-1)]
 .ret)
 (cR [oI 4 1]
 .ret))
 (.seq (cR [oM 16 0,oG 17 (.len (.t 16)),oZ 18 .sub 17 1,oM 5 18]
 (.block 0
 (.loop mC.l1)))
 (cR [oI 4 0]
 .ret))))⟩}).1
theorem mC.aA:Ck Tryz.f46 mC.c:=cK
theorem mC.ent:EnN 46:=eN Tryz.func46
def iX.l1:SC:=
 (.seq (.seq (.region [⟨some 9,.mv (.t 7),none⟩,⟨some 10,.mv (.t 0),none⟩,⟨some 11,.len (.t 10),none⟩,⟨some 12,.bin .lss (.t 9) (.t 11),none⟩])
 (.cond (.t 12)
 .skip
 (.exit 0)))
 (.seq (.block 1
 (.seq (.region [⟨some 15,.mv (.t 0),none⟩,⟨some 16,.mv (.t 7),none⟩,⟨some 17,.idx 1 (.t 15) (.t 16),none⟩,⟨some 18,.load false 1 (.t 17) none,none⟩,⟨some 19,.mv (.t 6),none⟩,⟨some 20,.bin .sub (.t 18) (.t 19),none⟩,⟨some 8,.mv (.t 20),none⟩])
 (.seq (.seq (.region [⟨some 21,.mv (.t 7),none⟩,⟨some 22,.mv (.t 1),none⟩,⟨some 23,.len (.t 22),none⟩,⟨some 24,.bin .lss (.t 21) (.t 23),none⟩])
 (.cond (.t 24)
 (.region [⟨some 25,.mv (.t 8),none⟩,⟨some 26,.mv (.t 1),none⟩,⟨some 27,.mv (.t 7),none⟩,⟨some 28,.idx 1 (.t 26) (.t 27),none⟩,⟨some 29,.load false 1 (.t 28) none,none⟩,⟨some 30,.bin .sub (.t 25) (.t 29),none⟩,⟨some 8,.mv (.t 30),none⟩])
 .skip))
 (.seq (.region [⟨some 6,.mv (.k (.int .i64 0)),none⟩])
 (.seq (.seq (.region [⟨some 31,.mv (.t 8),none⟩,⟨some 32,.bin .lss (.t 31) (.k (.int .i64 0)),none⟩])
 (.cond (.t 32)
 (.region [⟨some 33,.mv (.t 8),none⟩,⟨some 34,.bin .add (.t 33) (.k (.int .i64 65536)),none⟩,⟨some 8,.mv (.t 34),none⟩,⟨some 6,.mv (.k (.int .i64 1)),none⟩])
 .skip))
 (.region [⟨some 35,.mv (.t 5),none⟩,⟨some 36,.mv (.t 8),none⟩,⟨some 37,.fX ⟨3,1,some .i64⟩ [.v (.int .i64 0)] 1 [(0,1,(.t 36))],none⟩,⟨some 38,.app ⟨3,1,some .i64⟩ (.t 35) (.t 37),none⟩,⟨some 5,.mv (.t 38),none⟩]))))))
 (.region [⟨some 13,.mv (.t 7),none⟩,⟨some 14,.bin .add (.t 13) (.k (.int .i64 1)),none⟩,⟨some 7,.mv (.t 14),none⟩])))
def iX.c:SF:=(⟨_,by dsimp⟩:{c:SF//c=⟨41,[.t 4],
 (cR [oG 4 (.mv (.nil .i64))]
 (cR [oG 5 (.mv (.nil .i64))]
 (cR [oI 6 0]
 (.seq (cR [oI 7 0]
 (.block 0
 (.loop iX.l1)))
 (cR [oM 39 5,oG 40 (.lO 68 [.t 39]),oM 4 40]
 .ret)))))⟩}).1
theorem iX.aA:Ck Tryz.f47 iX.c:=cK
theorem iX.ent:EnN 47:=eN Tryz.func47
def lG.c:SF:=(⟨_,by dsimp⟩:{c:SF//c=⟨65,[.t 4],
 (cR [oB 3 1,oG 4 (.mv kF)]
 (cI [oM 6 0,oG 7 (.len (.t 6)),oZ 8 .geq 7 64,oM 9 8,⟨some 10,.aI 0 (.t 3),some (9,false)⟩,⟨some 11,.load false 1 (.t 10) (some 3),some (9,false)⟩,⟨some 12,.bin .lss (.t 11) (kI 0),some (9,false)⟩,oG 13 (.pick (.t 9) kT (.t 12)),oM 14 13,⟨some 15,.aI 0 (.t 3),some (14,false)⟩,⟨some 16,.load false 1 (.t 15) (some 3),some (14,false)⟩,⟨some 17,.bin .gtr (.t 16) (kI 1125899906842624),some (14,false)⟩,oG 18 (.pick (.t 14) kT (.t 17)),oM 19 18,⟨some 20,.aI 0 (.t 3),some (19,false)⟩,⟨some 21,.load false 1 (.t 20) (some 3),some (19,false)⟩,⟨some 22,.bin .rem (.t 21) (kI 86400),some (19,false)⟩,⟨some 23,.bin .neq (.t 22) (kI 0),some (19,false)⟩,oG 24 (.pick (.t 19) kT (.t 23)),oM 25 24,⟨some 26,.aI 1 (.t 3),some (25,false)⟩,⟨some 27,.load false 1 (.t 26) (some 3),some (25,false)⟩,⟨some 28,.bin .lss (.t 27) (kI 0),some (25,false)⟩,oG 29 (.pick (.t 25) kT (.t 28)),oM 30 29,⟨some 31,.aI 1 (.t 3),some (30,false)⟩,⟨some 32,.load false 1 (.t 31) (some 3),some (30,false)⟩,⟨some 33,.bin .gtr (.t 32) (kI 1000),some (30,false)⟩,oG 34 (.pick (.t 30) kT (.t 33))] 34
 (cR [oG 4 (.mv kF)]
 .ret)
 (cI [oM 35 0,oG 36 (.len (.t 35)),oZ 37 .eql 36 0] 37
 (cR [oG 4 (.mv kT)]
 .ret)
 (cR [oM 38 0,oM 39 0,oG 40 (.len (.t 39)),oZ 41 .sub 40 1,oG 42 (.idx 2 (.t 38) (.t 41)),oG 43 (.load true 2 (.t 42) none),oA 5 [zI,zI],oP 2 5 43]
 (cR [oD 44 0 3,oS 45 1 44 3,oD 46 0 5,oS 47 1 46 5,oY 48 .gtr 45 47,oM 49 48,⟨some 50,.aI 1 (.t 3),some (49,true)⟩,⟨some 51,.load false 1 (.t 50) (some 3),some (49,true)⟩,⟨some 52,.aI 1 (.t 5),some (49,true)⟩,⟨some 53,.load false 1 (.t 52) (some 5),some (49,true)⟩,⟨some 54,.bin .add (.t 53) (kI 1),some (49,true)⟩,⟨some 55,.bin .eql (.t 51) (.t 54),some (49,true)⟩,⟨some 56,.mv (.t 55),some (49,true)⟩,⟨some 57,.aI 1 (.t 3),some (56,false)⟩,⟨some 58,.load false 1 (.t 57) (some 3),some (56,false)⟩,⟨some 59,.aI 1 (.t 5),some (56,false)⟩,⟨some 60,.load false 1 (.t 59) (some 5),some (56,false)⟩,⟨some 61,.bin .sub (.t 60) (kI 1),some (56,false)⟩,⟨some 62,.bin .eql (.t 58) (.t 61),some (56,false)⟩,⟨some 63,.pick (.t 56) kT (.t 62),some (49,true)⟩,oG 64 (.pick (.t 49) (.t 63) kF),oM 4 64]
 .ret)))))⟩}).1
theorem lG.aA:Ck Tryz.f50 lG.c:=cK
theorem lG.ent:EnN 50:=eN Tryz.func50
def cF.l1:SC:=
 (.seq (.seq (.region [⟨some 26,.mv (.t 3),none⟩,⟨some 27,.len (.t 26),none⟩,⟨some 28,.bin .rem (.t 27) (.k (.int .i64 64)),none⟩,⟨some 29,.bin .neq (.t 28) (.k (.int .i64 56)),none⟩])
 (.cond (.t 29)
 .skip
 (.exit 0)))
 (.block 1
 (.region [⟨some 30,.mv (.t 3),none⟩,⟨some 31,.fX ⟨5,1,some .u8⟩ [.v (.int .u8 0)] 1 [(0,1,(.k (.int .u8 0)))],none⟩,⟨some 32,.app ⟨5,1,some .u8⟩ (.t 30) (.t 31),none⟩,⟨some 3,.mv (.t 32),none⟩])))
def cF.l2:SC:=
 (.seq (.seq (.region [⟨some 33,.mv (.t 4),none⟩,⟨some 34,.bin .geq (.t 33) (.k (.int .i64 0)),none⟩])
 (.cond (.t 34)
 .skip
 (.exit 2)))
 (.seq (.block 3
 (.region [⟨some 37,.mv (.t 3),none⟩,⟨some 38,.mv (.t 0),none⟩,⟨some 39,.len (.t 38),none⟩,⟨some 40,.bin .mul (.t 39) (.k (.int .i64 8)),none⟩,⟨some 41,.mv (.t 4),none⟩,⟨some 42,.bin .mul (.k (.int .i64 8)) (.t 41),none⟩,⟨some 43,.cH .u64 (.t 42),none⟩,⟨some 44,.bin .shr (.t 40) (.t 43),none⟩,⟨some 45,.cH .u8 (.t 44),none⟩,⟨some 46,.fX ⟨5,1,some .u8⟩ [.v (.int .u8 0)] 1 [(0,1,(.t 45))],none⟩,⟨some 47,.app ⟨5,1,some .u8⟩ (.t 37) (.t 46),none⟩,⟨some 3,.mv (.t 47),none⟩]))
 (.region [⟨some 35,.mv (.t 4),none⟩,⟨some 36,.bin .sub (.t 35) (.k (.int .i64 1)),none⟩,⟨some 4,.mv (.t 36),none⟩])))
def cF.l3:SC:=
 (.seq (.seq (.region [⟨some 60,.mv (.t 9),none⟩,⟨some 61,.bin .lss (.t 60) (.k (.int .i64 4)),none⟩])
 (.cond (.t 61)
 .skip
 (.exit 8)))
 (.seq (.block 9
 (.region [⟨some 64,.mv (.t 7),none⟩,⟨some 65,.mv (.t 8),none⟩,⟨some 66,.mv (.t 7),none⟩,⟨some 67,.mv (.t 8),none⟩,⟨some 68,.idx 1 (.t 66) (.t 67),none⟩,⟨some 69,.load false 1 (.t 68) (some 55),none⟩,⟨some 70,.bin .mul (.t 69) (.k (.int .i64 256)),none⟩,⟨some 71,.mv (.t 3),none⟩,⟨some 72,.mv (.t 6),none⟩,⟨some 73,.mv (.t 8),none⟩,⟨some 74,.bin .mul (.k (.int .i64 4)) (.t 73),none⟩,⟨some 75,.bin .add (.t 72) (.t 74),none⟩,⟨some 76,.mv (.t 9),none⟩,⟨some 77,.bin .add (.t 75) (.t 76),none⟩,⟨some 78,.idx 1 (.t 71) (.t 77),none⟩,⟨some 79,.load false 1 (.t 78) (some 47),none⟩,⟨some 80,.cH .i64 (.t 79),none⟩,⟨some 81,.bin .add (.t 70) (.t 80),none⟩,⟨some 82,.idx 1 (.t 64) (.t 65),none⟩,⟨none,.store 1 (.t 82) (.t 81) 55,none⟩]))
 (.region [⟨some 62,.mv (.t 9),none⟩,⟨some 63,.bin .add (.t 62) (.k (.int .i64 1)),none⟩,⟨some 9,.mv (.t 63),none⟩])))
def cF.l4:SC:=
 (.seq (.seq (.region [⟨some 56,.mv (.t 8),none⟩,⟨some 57,.bin .lss (.t 56) (.k (.int .i64 16)),none⟩])
 (.cond (.t 57)
 .skip
 (.exit 6)))
 (.seq (.block 7
 (.seq (.region [⟨some 9,.mv (.k (.int .i64 0)),none⟩])
 (.block 8
 (.loop cF.l3))))
 (.region [⟨some 58,.mv (.t 8),none⟩,⟨some 59,.bin .add (.t 58) (.k (.int .i64 1)),none⟩,⟨some 8,.mv (.t 59),none⟩])))
def cF.l5:SC:=
 (.seq (.seq (.region [⟨some 83,.mv (.t 10),none⟩,⟨some 84,.bin .lss (.t 83) (.k (.int .i64 80)),none⟩])
 (.cond (.t 84)
 .skip
 (.exit 10)))
 (.seq (.block 11
 (.region [⟨some 87,.mv (.t 7),none⟩,⟨some 88,.mv (.t 10),none⟩,⟨some 89,.mv (.t 7),none⟩,⟨some 90,.mv (.t 10),none⟩,⟨some 91,.bin .sub (.t 90) (.k (.int .i64 3)),none⟩,⟨some 92,.idx 1 (.t 89) (.t 91),none⟩,⟨some 93,.load false 1 (.t 92) (some 55),none⟩,⟨some 94,.mv (.t 7),none⟩,⟨some 95,.mv (.t 10),none⟩,⟨some 96,.bin .sub (.t 95) (.k (.int .i64 8)),none⟩,⟨some 97,.idx 1 (.t 94) (.t 96),none⟩,⟨some 98,.load false 1 (.t 97) (some 55),none⟩,⟨some 99,.bin .xor (.t 93) (.t 98),none⟩,⟨some 100,.mv (.t 7),none⟩,⟨some 101,.mv (.t 10),none⟩,⟨some 102,.bin .sub (.t 101) (.k (.int .i64 14)),none⟩,⟨some 103,.idx 1 (.t 100) (.t 102),none⟩,⟨some 104,.load false 1 (.t 103) (some 55),none⟩,⟨some 105,.bin .xor (.t 99) (.t 104),none⟩,⟨some 106,.mv (.t 7),none⟩,⟨some 107,.mv (.t 10),none⟩,⟨some 108,.bin .sub (.t 107) (.k (.int .i64 16)),none⟩,⟨some 109,.idx 1 (.t 106) (.t 108),none⟩,⟨some 110,.load false 1 (.t 109) (some 55),none⟩,⟨some 111,.bin .xor (.t 105) (.t 110),none⟩,⟨some 112,.call 72 [(.t 111),(.k (.int .i64 1))],none⟩,⟨some 113,.idx 1 (.t 87) (.t 88),none⟩,⟨none,.store 1 (.t 113) (.t 112) 55,none⟩]))
 (.region [⟨some 85,.mv (.t 10),none⟩,⟨some 86,.bin .add (.t 85) (.k (.int .i64 1)),none⟩,⟨some 10,.mv (.t 86),none⟩])))
def cF.l6:SC:=
 (.seq (.seq (.region [⟨some 124,.mv (.t 16),none⟩,⟨some 125,.bin .lss (.t 124) (.k (.int .i64 80)),none⟩])
 (.cond (.t 125)
 .skip
 (.exit 12)))
 (.seq (.block 13
 (.seq (.region [⟨some 128,.mv (.t 12),none⟩,⟨some 129,.mv (.t 13),none⟩,⟨some 130,.bin .xor (.t 128) (.t 129),none⟩,⟨some 131,.mv (.t 14),none⟩,⟨some 132,.bin .xor (.t 130) (.t 131),none⟩,⟨some 17,.mv (.t 132),none⟩,⟨some 18,.mv (.k (.int .i64 3395469782)),none⟩])
 (.seq (.seq (.region [⟨some 133,.mv (.t 16),none⟩,⟨some 134,.bin .lss (.t 133) (.k (.int .i64 20)),none⟩])
 (.cond (.t 134)
 (.region [⟨some 135,.mv (.t 12),none⟩,⟨some 136,.mv (.t 13),none⟩,⟨some 137,.bin .and (.t 135) (.t 136),none⟩,⟨some 138,.mv (.t 12),none⟩,⟨some 139,.bin .sub (.k (.int .i64 4294967295)) (.t 138),none⟩,⟨some 140,.mv (.t 14),none⟩,⟨some 141,.bin .and (.t 139) (.t 140),none⟩,⟨some 142,.bin .add (.t 137) (.t 141),none⟩,⟨some 17,.mv (.t 142),none⟩,⟨some 18,.mv (.k (.int .i64 1518500249)),none⟩])
 (.seq (.region [⟨some 143,.mv (.t 16),none⟩,⟨some 144,.bin .lss (.t 143) (.k (.int .i64 40)),none⟩])
 (.cond (.t 144)
 (.region [⟨some 18,.mv (.k (.int .i64 1859775393)),none⟩])
 (.seq (.region [⟨some 145,.mv (.t 16),none⟩,⟨some 146,.bin .lss (.t 145) (.k (.int .i64 60)),none⟩])
 (.cond (.t 146)
 (.region [⟨some 147,.mv (.t 12),none⟩,⟨some 148,.mv (.t 13),none⟩,⟨some 149,.bin .and (.t 147) (.t 148),none⟩,⟨some 150,.mv (.t 12),none⟩,⟨some 151,.mv (.t 14),none⟩,⟨some 152,.bin .and (.t 150) (.t 151),none⟩,⟨some 153,.bin .or (.t 149) (.t 152),none⟩,⟨some 154,.mv (.t 13),none⟩,⟨some 155,.mv (.t 14),none⟩,⟨some 156,.bin .and (.t 154) (.t 155),none⟩,⟨some 157,.bin .or (.t 153) (.t 156),none⟩,⟨some 17,.mv (.t 157),none⟩,⟨some 18,.mv (.k (.int .i64 2400959708)),none⟩])
 .skip))))))
 (.seq (.region [⟨some 158,.mv (.t 11),none⟩,⟨some 159,.call 72 [(.t 158),(.k (.int .i64 5))],none⟩,⟨some 160,.mv (.t 17),none⟩,⟨some 161,.bin .add (.t 159) (.t 160),none⟩,⟨some 162,.mv (.t 15),none⟩,⟨some 163,.bin .add (.t 161) (.t 162),none⟩,⟨some 164,.mv (.t 18),none⟩,⟨some 165,.bin .add (.t 163) (.t 164),none⟩,⟨some 166,.mv (.t 7),none⟩,⟨some 167,.mv (.t 16),none⟩,⟨some 168,.idx 1 (.t 166) (.t 167),none⟩,⟨some 169,.load false 1 (.t 168) (some 55),none⟩,⟨some 170,.bin .add (.t 165) (.t 169),none⟩,⟨some 171,.bin .rem (.t 170) (.k (.int .i64 4294967296)),none⟩,⟨some 19,.mv (.t 171),none⟩])
 (.region [⟨some 172,.mv (.t 19),none⟩,⟨some 173,.mv (.t 11),none⟩,⟨some 174,.mv (.t 12),none⟩,⟨some 175,.call 72 [(.t 174),(.k (.int .i64 30))],none⟩,⟨some 176,.mv (.t 13),none⟩,⟨some 177,.mv (.t 14),none⟩,⟨some 11,.mv (.t 172),none⟩,⟨some 12,.mv (.t 173),none⟩,⟨some 13,.mv (.t 175),none⟩,⟨some 14,.mv (.t 176),none⟩,⟨some 15,.mv (.t 177),none⟩])))))
 (.region [⟨some 126,.mv (.t 16),none⟩,⟨some 127,.bin .add (.t 126) (.k (.int .i64 1)),none⟩,⟨some 16,.mv (.t 127),none⟩])))
def cF.l7:SC:=
 (.forget [55] (.seq (.seq (.region [⟨some 49,.mv (.t 6),none⟩,⟨some 50,.mv (.t 3),none⟩,⟨some 51,.len (.t 50),none⟩,⟨some 52,.bin .lss (.t 49) (.t 51),none⟩])
 (.cond (.t 52)
 .skip
 (.exit 4)))
 (.seq (.block 5
 (.seq (.region [⟨some 55,.rL ⟨3,1,some .i64⟩ (.int .i64 0) (.k (.int .i64 80)),none⟩,⟨some 7,.mv (.t 55),none⟩])
 (.seq (.seq (.region [⟨some 8,.mv (.k (.int .i64 0)),none⟩])
 (.block 6
 (.loop cF.l4)))
 (.seq (.seq (.region [⟨some 10,.mv (.k (.int .i64 16)),none⟩])
 (.block 10
 (.loop cF.l5)))
 (.seq (.region [⟨some 114,.dN 1 5 (.t 5) (.k (.int .i64 0)),none⟩,⟨some 115,.load false 1 (.t 114) (some 5),none⟩,⟨some 116,.dN 1 5 (.t 5) (.k (.int .i64 1)),none⟩,⟨some 117,.load false 1 (.t 116) (some 5),none⟩,⟨some 118,.dN 1 5 (.t 5) (.k (.int .i64 2)),none⟩,⟨some 119,.load false 1 (.t 118) (some 5),none⟩,⟨some 120,.dN 1 5 (.t 5) (.k (.int .i64 3)),none⟩,⟨some 121,.load false 1 (.t 120) (some 5),none⟩,⟨some 122,.dN 1 5 (.t 5) (.k (.int .i64 4)),none⟩,⟨some 123,.load false 1 (.t 122) (some 5),none⟩,⟨some 11,.mv (.t 115),none⟩,⟨some 12,.mv (.t 117),none⟩,⟨some 13,.mv (.t 119),none⟩,⟨some 14,.mv (.t 121),none⟩,⟨some 15,.mv (.t 123),none⟩])
 (.seq (.seq (.region [⟨some 16,.mv (.k (.int .i64 0)),none⟩])
 (.block 12
 (.loop cF.l6)))
 (.region [⟨some 178,.dN 1 5 (.t 5) (.k (.int .i64 0)),none⟩,⟨some 179,.load false 1 (.t 178) (some 5),none⟩,⟨some 180,.mv (.t 11),none⟩,⟨some 181,.bin .add (.t 179) (.t 180),none⟩,⟨some 182,.bin .rem (.t 181) (.k (.int .i64 4294967296)),none⟩,⟨some 183,.dN 1 5 (.t 5) (.k (.int .i64 1)),none⟩,⟨some 184,.load false 1 (.t 183) (some 5),none⟩,⟨some 185,.mv (.t 12),none⟩,⟨some 186,.bin .add (.t 184) (.t 185),none⟩,⟨some 187,.bin .rem (.t 186) (.k (.int .i64 4294967296)),none⟩,⟨some 188,.dN 1 5 (.t 5) (.k (.int .i64 2)),none⟩,⟨some 189,.load false 1 (.t 188) (some 5),none⟩,⟨some 190,.mv (.t 13),none⟩,⟨some 191,.bin .add (.t 189) (.t 190),none⟩,⟨some 192,.bin .rem (.t 191) (.k (.int .i64 4294967296)),none⟩,⟨some 193,.dN 1 5 (.t 5) (.k (.int .i64 3)),none⟩,⟨some 194,.load false 1 (.t 193) (some 5),none⟩,⟨some 195,.mv (.t 14),none⟩,⟨some 196,.bin .add (.t 194) (.t 195),none⟩,⟨some 197,.bin .rem (.t 196) (.k (.int .i64 4294967296)),none⟩,⟨some 198,.dN 1 5 (.t 5) (.k (.int .i64 4)),none⟩,⟨some 199,.load false 1 (.t 198) (some 5),none⟩,⟨some 200,.mv (.t 15),none⟩,⟨some 201,.bin .add (.t 199) (.t 200),none⟩,⟨some 202,.bin .rem (.t 201) (.k (.int .i64 4294967296)),none⟩,⟨some 203,.build [.v (.int .i64 0),.v (.int .i64 0),.v (.int .i64 0),.v (.int .i64 0),.v (.int .i64 0)] [(0,1,(.t 182)),(1,1,(.t 187)),(2,1,(.t 192)),(3,1,(.t 197)),(4,1,(.t 202))],none⟩,⟨none,.store 5 (.t 5) (.t 203) 5,none⟩])))))))
 (.region [⟨some 53,.mv (.t 6),none⟩,⟨some 54,.bin .add (.t 53) (.k (.int .i64 64)),none⟩,⟨some 6,.mv (.t 54),none⟩]))))
def cF.c:SF:=(⟨_,by dsimp⟩:{c:SF//c=⟨205,[.c 2 true 5],
 (cR [oA 2 [zI,zI,zI,zI,zI]]
 (cR [oG 20 (.fX ⟨5,1,some .u8⟩ [] 0 []),oM 21 0,oG 22 (.app ⟨5,1,some .u8⟩ (.t 20) (.t 21)),oM 3 22]
 (cR [oM 23 3,oG 24 (.fX ⟨5,1,some .u8⟩ [.v (.int .u8 0)] 1 [(0,1,(.k (.int .u8 128)))]),oG 25 (.app ⟨5,1,some .u8⟩ (.t 23) (.t 24)),oM 3 25]
 (.seq (.block 0
 (.loop cF.l1))
 (.seq (cR [oI 4 7]
 (.block 2
 (.loop cF.l2)))
 (cR [oG 48 (.build [zI,zI,zI,zI,zI] [(0,1,kI 1732584193),(1,1,kI 4023233417),(2,1,kI 2562383102),(3,1,kI 271733878),(4,1,kI 3285377520)]),oA 5 [zI,zI,zI,zI,zI],oP 5 5 48]
 (.seq (cR [oI 6 0]
 (.block 4
 (.loop cF.l7)))
 (cR [oL 204 5 5,oP 5 2 204]
 .ret))))))))⟩}).1
theorem cF.aA:Ck Tryz.f51 cF.c:=cK
theorem cF.ent:EnN 51:=eN Tryz.func51
def rI.l1:SC:=
 (.seq (.seq (.region [⟨some 12,.mv (.t 4),none⟩,⟨some 13,.aI 2 (.t 1),none⟩,⟨some 14,.load false 1 (.t 13) (some 1),none⟩,⟨some 15,.len (.t 14),none⟩,⟨some 16,.bin .lss (.t 12) (.t 15),none⟩])
 (.cond (.t 16)
 .skip
 (.exit 0)))
 (.seq (.block 1
 (.region [⟨some 19,.mv (.t 3),none⟩,⟨some 20,.aI 2 (.t 1),none⟩,⟨some 21,.load false 1 (.t 20) (some 1),none⟩,⟨some 22,.mv (.t 4),none⟩,⟨some 23,.idx 2 (.t 21) (.t 22),none⟩,⟨some 24,.aI 0 (.t 23),none⟩,⟨some 25,.load false 1 (.t 24) none,none⟩,⟨some 26,.call 53 [(.t 25)],none⟩,⟨some 27,.cat (.t 19) (.t 26),none⟩,⟨some 28,.aI 2 (.t 1),none⟩,⟨some 29,.load false 1 (.t 28) (some 1),none⟩,⟨some 30,.mv (.t 4),none⟩,⟨some 31,.idx 2 (.t 29) (.t 30),none⟩,⟨some 32,.aI 1 (.t 31),none⟩,⟨some 33,.load false 1 (.t 32) none,none⟩,⟨some 34,.call 53 [(.t 33)],none⟩,⟨some 35,.cat (.t 27) (.t 34),none⟩,⟨some 3,.mv (.t 35),none⟩]))
 (.region [⟨some 17,.mv (.t 4),none⟩,⟨some 18,.bin .add (.t 17) (.k (.int .i64 1)),none⟩,⟨some 4,.mv (.t 18),none⟩])))
def rI.c:SF:=(⟨_,by dsimp⟩:{c:SF//c=⟨37,[.t 2],
 (cR [oB 1 0,oG 2 (.mv (.k (.string ⟨#[]⟩)))]
 (cR [oD 5 0 1,oS 6 1 5 1,oC 7 53 [.t 6],oD 8 1 1,oS 9 1 8 1,oC 10 53 [.t 9],oG 11 (.cat (.t 7) (.t 10)),oM 3 11]
 (.seq (cR [oI 4 0]
 (.block 0
 (.loop rI.l1)))
 (cR [oM 36 3,oM 2 36]
 .ret))))⟩}).1
theorem rI.aA:Ck Tryz.f52 rI.c:=cK
theorem rI.ent:EnN 52:=eN Tryz.func52
def qA.c:SF:=(⟨_,by dsimp⟩:{c:SF//c=⟨20,[.t 2],
 (cR [oG 2 (.mv (.k (.string ⟨#[]⟩)))]
 (cI [oM 3 0,oZ 4 .lss 3 10] 4
 (cR [oM 5 0,oX 6 .add (kI 48) (.t 5),oG 7 (.cH .u8 (.t 6)),oG 8 (.sG ⟨5,1,some .u8⟩ [.v (.int .u8 0)] 1 [(0,1,.t 7)]),oG 9 (.str (.t 8)),oM 2 9]
 .ret)
 (cR [oM 10 0,oZ 11 .quo 10 10,oC 12 53 [.t 11],oM 13 0,oZ 14 .rem 13 10,oX 15 .add (kI 48) (.t 14),oG 16 (.cH .u8 (.t 15)),oG 17 (.sG ⟨5,1,some .u8⟩ [.v (.int .u8 0)] 1 [(0,1,.t 16)]),oG 18 (.str (.t 17)),oG 19 (.cat (.t 12) (.t 18)),oM 2 19]
 .ret)))⟩}).1
theorem qA.aA:Ck Tryz.f53 qA.c:=cK
theorem qA.ent:EnN 53:=eN Tryz.func53
def dK.c:SF:=(⟨_,by dsimp⟩:{c:SF//c=⟨37,[.c 4 true 2,.t 5],
 (cR [oB 2 0,oB 3 1,oA 4 [zI,zU],oI 5 0]
 (cR [oL 10 2 2,oC 11 105 [.t 10],oL 12 2 3,oC 13 105 [.t 12],oC 14 104 [.t 11,.t 13],oM 9 14,oJ 15 9 0,oJ 16 9 1,oA 6 [zU,zU],oP 2 6 15,oM 7 16]
 (cR [oL 17 2 6,oC 18 106 [.t 17],oA 8 [zI,zU],oP 2 8 18]
 (cI [oD 19 0 2,oS 20 1 19 2,oX 21 .shr (.t 20) (kU 63),oD 22 0 3,oS 23 1 22 3,oX 24 .shr (.t 23) (kU 63),oY 25 .eql 21 24,oM 26 25,⟨some 27,.aI 0 (.t 8),some (26,true)⟩,⟨some 28,.load false 1 (.t 27) (some 8),some (26,true)⟩,⟨some 29,.bin .shr (.t 28) (kU 63),some (26,true)⟩,⟨some 30,.aI 0 (.t 2),some (26,true)⟩,⟨some 31,.load false 1 (.t 30) (some 2),some (26,true)⟩,⟨some 32,.bin .shr (.t 31) (kU 63),some (26,true)⟩,⟨some 33,.bin .neq (.t 29) (.t 32),some (26,true)⟩,oG 34 (.pick (.t 26) (.t 33) kF)] 34
 (cR [oG 35 (.build [zI,zU] []),oP 2 4 35,oI 5 2]
 .ret)
 (cR [oL 36 2 8,oP 2 4 36,oI 5 0]
 .ret)))))⟩}).1
theorem dK.aA:Ck Tryz.f64 dK.c:=cK
theorem dK.ent:EnN 64:=eN Tryz.func64
def dM.c:SF:=(⟨_,by dsimp⟩:{c:SF//c=⟨37,[.c 4 true 2,.t 5],
 (cR [oB 2 0,oB 3 1,oA 4 [zI,zU],oI 5 0]
 (cR [oL 10 2 2,oC 11 105 [.t 10],oL 12 2 3,oC 13 105 [.t 12],oC 14 109 [.t 11,.t 13],oM 9 14,oJ 15 9 0,oJ 16 9 1,oA 6 [zU,zU],oP 2 6 15,oM 7 16]
 (cR [oL 17 2 6,oC 18 106 [.t 17],oA 8 [zI,zU],oP 2 8 18]
 (cI [oD 19 0 2,oS 20 1 19 2,oX 21 .shr (.t 20) (kU 63),oD 22 0 3,oS 23 1 22 3,oX 24 .shr (.t 23) (kU 63),oY 25 .neq 21 24,oM 26 25,⟨some 27,.aI 0 (.t 8),some (26,true)⟩,⟨some 28,.load false 1 (.t 27) (some 8),some (26,true)⟩,⟨some 29,.bin .shr (.t 28) (kU 63),some (26,true)⟩,⟨some 30,.aI 0 (.t 2),some (26,true)⟩,⟨some 31,.load false 1 (.t 30) (some 2),some (26,true)⟩,⟨some 32,.bin .shr (.t 31) (kU 63),some (26,true)⟩,⟨some 33,.bin .neq (.t 29) (.t 32),some (26,true)⟩,oG 34 (.pick (.t 26) (.t 33) kF)] 34
 (cR [oG 35 (.build [zI,zU] []),oP 2 4 35,oI 5 2]
 .ret)
 (cR [oL 36 2 8,oP 2 4 36,oI 5 0]
 .ret)))))⟩}).1
theorem dM.aA:Ck Tryz.f66 dM.c:=cK
theorem dM.ent:EnN 66:=eN Tryz.func66
def qK.l1:SC:=
 (.seq (.seq (.region [⟨some 6,.mv (.t 3),none⟩,⟨some 7,.bin .gtr (.t 6) (.k (.int .i64 0)),none⟩,⟨some 8,.mv (.t 7),none⟩,⟨some 9,.mv (.t 0),some (8,true)⟩,⟨some 10,.mv (.t 3),some (8,true)⟩,⟨some 11,.bin .sub (.t 10) (.k (.int .i64 1)),some (8,true)⟩,⟨some 12,.idx 1 (.t 9) (.t 11),some (8,true)⟩,⟨some 13,.load false 1 (.t 12) none,some (8,true)⟩,⟨some 14,.bin .eql (.t 13) (.k (.int .i64 0)),some (8,true)⟩,⟨some 15,.pick (.t 8) (.t 14) (.k (.bool false)),none⟩])
 (.cond (.t 15)
 .skip
 (.exit 0)))
 (.block 1
 (.region [⟨some 16,.mv (.t 3),none⟩,⟨some 17,.bin .sub (.t 16) (.k (.int .i64 1)),none⟩,⟨some 3,.mv (.t 17),none⟩])))
def qK.c:SF:=(⟨_,by dsimp⟩:{c:SF//c=⟨21,[.t 2],
 (cR [oG 2 (.mv (.nil .i64))]
 (cR [oM 4 0,oG 5 (.len (.t 4)),oM 3 5]
 (.seq (.block 0
 (.loop qK.l1))
 (cR [oM 18 0,oM 19 3,oG 20 (.sl (.t 18) none (some (.t 19))),oM 2 20]
 .ret))))⟩}).1
theorem qK.aA:Ck Tryz.f68 qK.c:=cK
theorem qK.ent:EnN 68:=eN Tryz.func68
def Eg.c:SF:=(⟨_,by dsimp⟩:{c:SF//c=⟨16,[.t 4],
 (cR [oI 4 0]
 (cR [oM 5 0,oM 6 1,oG 7 (.cH .u64 (.t 6)),oY 8 .shl 5 7,oZ 9 .rem 8 4294967296,oM 10 0,oM 11 1,oX 12 .sub (kI 32) (.t 11),oG 13 (.cH .u64 (.t 12)),oY 14 .shr 10 13,oY 15 .add 9 14,oM 4 15]
 .ret))⟩}).1
theorem Eg.aA:Ck Tryz.f72 Eg.c:=cK
theorem Eg.ent:EnN 72:=eN Tryz.func72
def sX.c:SF:=(⟨_,by dsimp⟩:{c:SF//c=⟨25,[.c 4 true 2,.t 5],
 (cR [oB 3 1,oA 4 [zI,zU],oI 5 0]
 (cR [oM 9 0,oC 10 128 [.t 9],oM 8 10,oJ 11 8 0,oJ 12 8 1,oA 6 [zI,zU],oP 2 6 11,oM 7 12]
 (cI [oM 13 7,oZ 14 .neq 13 0] 14
 (cR [oG 15 (.build [zI,zU] []),oM 16 7,oP 2 4 15,oM 5 16]
 .ret)
 (cR [oL 17 2 3,oL 18 2 6,oC 19 64 [.t 17,.t 18],oJ 20 19 0,oJ 21 19 1,oC 22 129 [.t 20,.t 21],oJ 23 22 0,oJ 24 22 1,oP 2 4 23,oM 5 24]
 .ret))))⟩}).1
theorem sX.aA:Ck Tryz.f94 sX.c:=cK
theorem sX.ent:EnN 94:=eN Tryz.func94
def yF.c:SF:=(⟨_,by dsimp⟩:{c:SF//c=⟨31,[.c 4 true 2,.t 5],
 (cR [oB 3 1,oA 4 [zI,zU],oI 5 0]
 (cR [oM 9 0,oC 10 128 [.t 9],oM 8 10,oJ 11 8 0,oJ 12 8 1,oA 6 [zI,zU],oP 2 6 11,oM 7 12]
 (cI [oM 13 7,oZ 14 .neq 13 0] 14
 (cR [oG 15 (.build [zI,zU] []),oM 16 7,oP 2 4 15,oM 5 16]
 .ret)
 (cR [oL 18 2 3,oC 19 129 [.t 18,kI 0],oM 17 19,oJ 20 17 0,oJ 21 17 1,oP 2 3 20,oM 7 21]
 (cI [oM 22 7,oZ 23 .neq 22 0] 23
 (cR [oG 24 (.build [zI,zU] []),oM 25 7,oP 2 4 24,oM 5 25]
 .ret)
 (cR [oL 26 2 3,oL 27 2 6,oC 28 66 [.t 26,.t 27],oJ 29 28 0,oJ 30 28 1,oP 2 4 29,oM 5 30]
 .ret))))))⟩}).1
theorem yF.aA:Ck Tryz.f98 yF.c:=cK
theorem yF.ent:EnN 98:=eN Tryz.func98
def Af.c:SF:=(⟨_,by dsimp⟩:{c:SF//c=⟨31,[.c 4 true 2,.t 5],
 (cR [oB 2 0,oB 3 1,oA 4 [zU,zU],oG 5 (.mv kF)]
 (cR [oD 10 1 2,oS 11 1 10 2,oD 12 1 3,oS 13 1 12 3,oC 14 137 [.t 11,.t 13,kU 0],oM 9 14,oJ 15 9 0,oJ 16 9 1,oM 6 15,oM 7 16]
 (cR [oD 18 0 2,oS 19 1 18 2,oD 20 0 3,oS 21 1 20 3,oM 22 7,oC 23 137 [.t 19,.t 21,.t 22],oM 17 23,oJ 24 17 0,oJ 25 17 1,oM 8 24,oM 7 25]
 (cR [oM 26 8,oM 27 6,oG 28 (.build [zU,zU] [(0,1,.t 26),(1,1,.t 27)]),oM 29 7,oX 30 .eql (.t 29) (kU 1),oP 2 4 28,oM 5 30]
 .ret))))⟩}).1
theorem Af.aA:Ck Tryz.f104 Af.c:=cK
theorem Af.ent:EnN 104:=eN Tryz.func104
def zG.c:SF:=(⟨_,by dsimp⟩:{c:SF//c=⟨9,[.c 2 true 2],
 (cR [oB 1 0,oA 2 [zU,zU]]
 (cR [oD 3 0 1,oS 4 1 3 1,oG 5 (.cH .u64 (.t 4)),oD 6 1 1,oS 7 1 6 1,oG 8 (.build [zU,zU] [(0,1,.t 5),(1,1,.t 7)]),oP 2 2 8]
 .ret))⟩}).1
theorem zG.aA:Ck Tryz.f105 zG.c:=cK
theorem zG.ent:EnN 105:=eN Tryz.func105
def Bf.c:SF:=(⟨_,by dsimp⟩:{c:SF//c=⟨9,[.c 2 true 2],
 (cR [oB 1 0,oA 2 [zI,zU]]
 (cR [oD 3 0 1,oS 4 1 3 1,oG 5 (.cH .i64 (.t 4)),oD 6 1 1,oS 7 1 6 1,oG 8 (.build [zI,zU] [(0,1,.t 5),(1,1,.t 7)]),oP 2 2 8]
 .ret))⟩}).1
theorem Bf.aA:Ck Tryz.f106 Bf.c:=cK
theorem Bf.ent:EnN 106:=eN Tryz.func106
def sQ.c:SF:=(⟨_,by dsimp⟩:{c:SF//c=⟨31,[.c 4 true 2,.t 5],
 (cR [oB 2 0,oB 3 1,oA 4 [zU,zU],oG 5 (.mv kF)]
 (cR [oD 10 1 2,oS 11 1 10 2,oD 12 1 3,oS 13 1 12 3,oC 14 141 [.t 11,.t 13,kU 0],oM 9 14,oJ 15 9 0,oJ 16 9 1,oM 6 15,oM 7 16]
 (cR [oD 18 0 2,oS 19 1 18 2,oD 20 0 3,oS 21 1 20 3,oM 22 7,oC 23 141 [.t 19,.t 21,.t 22],oM 17 23,oJ 24 17 0,oJ 25 17 1,oM 8 24,oM 7 25]
 (cR [oM 26 8,oM 27 6,oG 28 (.build [zU,zU] [(0,1,.t 26),(1,1,.t 27)]),oM 29 7,oX 30 .eql (.t 29) (kU 1),oP 2 4 28,oM 5 30]
 .ret))))⟩}).1
theorem sQ.aA:Ck Tryz.f109 sQ.c:=cK
theorem sQ.ent:EnN 109:=eN Tryz.func109
def yW.c:SF:=(⟨_,by dsimp⟩:{c:SF//c=⟨18,[.c 2 true 2,.t 3],
 (cR [oA 2 [zI,zU],oI 3 0]
 (cR [oM 7 0,oC 8 169 [.t 7],oM 6 8,oJ 9 6 0,oJ 10 6 1,oA 4 [zI,zI,zI],oP 3 4 9,oM 5 10]
 (cI [oM 11 5,oG 12 (.not (.t 11))] 12
 (cR [oG 13 (.build [zI,zU] []),oP 2 2 13,oI 3 1]
 .ret)
 (cR [oL 14 3 4,oC 15 170 [.t 14],oJ 16 15 0,oJ 17 15 1,oP 2 2 16,oM 3 17]
 .ret))))⟩}).1
theorem yW.aA:Ck Tryz.f128 yW.c:=cK
theorem yW.ent:EnN 128:=eN Tryz.func128
def wP.c:SF:=(⟨_,by dsimp⟩:{c:SF//c=⟨22,[.c 4 true 2,.t 5],
 (cR [oB 2 0,oA 4 [zI,zU],oI 5 0]
 (cI [oM 8 1,oZ 9 .neq 8 0] 9
 (cR [oG 10 (.build [zI,zU] []),oM 11 1,oP 2 4 10,oM 5 11]
 .ret)
 (.seq (cR [oL 13 2 2,oC 14 171 [.t 13],oM 12 14,oJ 15 12 0,oJ 16 12 1,oA 6 [zI,zI,zI],oP 3 6 15,oM 7 16]
 (cR [oM 17 7,oZ 18 .neq 17 0]
 (.cond (.t 18)
 (cR [oG 19 (.build [zI,zU] []),oM 20 7,oP 2 4 19,oM 5 20]
 .ret)
 .skip)))
 (cR [oL 21 2 2,oP 2 4 21,oI 5 0]
 .ret))))⟩}).1
theorem wP.aA:Ck Tryz.f129 wP.c:=cK
theorem wP.ent:EnN 129:=eN Tryz.func129
def eU.c:SF:=(⟨_,by dsimp⟩:{c:SF//c=⟨91,[.c 6 true 2,.c 7 true 2,.t 8],
 (cR [oB 3 0,oB 4 1,oB 5 2,oA 6 [zI,zU],oA 7 [zI,zU],oI 8 0]
 (cI [oL 17 2 5,oC 18 207 [.t 17],oG 19 (.not (.t 18))] 19
 (cR [oL 20 2 6,oL 21 2 7,oP 2 6 20,oP 2 7 21,oI 8 3]
 .ret)
 (cR [oL 23 2 3,oC 24 209 [.t 23],oL 25 2 4,oC 26 209 [.t 25],oC 27 208 [.t 24,.t 26],oM 22 27,oJ 28 22 0,oJ 29 22 1,oA 9 [zU,zU],oA 10 [zU,zU],oP 2 9 28,oP 2 10 29]
 (cR [oL 31 2 9,oL 32 2 10,oL 33 2 5,oC 34 105 [.t 33],oC 35 210 [.t 31,.t 32,.t 34],oM 30 35,oJ 36 30 0,oJ 37 30 1,oJ 38 30 2,oA 11 [zU,zU],oA 12 [zU,zU],oP 2 11 36,oP 2 12 37,oM 13 38]
 (cI [oM 39 13,oG 40 (.not (.t 39))] 40
 (cR [oL 41 2 6,oL 42 2 7,oP 2 6 41,oP 2 7 42,oI 8 2]
 .ret)
 (cR [oD 43 0 3,oS 44 1 43 3,oZ 45 .lss 44 0,oD 46 0 4,oS 47 1 46 4,oZ 48 .lss 47 0,oG 49 (.qD true (.t 45) (.t 48)),oM 14 49]
 (cR [oL 51 2 11,oM 52 14,oC 53 211 [.t 51,.t 52],oM 50 53,oJ 54 50 0,oJ 55 50 1,oP 2 6 54,oM 8 55]
 (cI [oM 56 8,oZ 57 .neq 56 0] 57
 (cR [oL 58 2 6,oL 59 2 7,oM 60 8,oP 2 6 58,oP 2 7 59,oM 8 60]
 .ret)
 (cI [oM 61 14,oG 62 (.not (.t 61)),oM 63 62,⟨some 64,.load true 2 (.t 12) (some 12),some (63,false)⟩,⟨some 65,.build [zU,zU] [],some (63,false)⟩,⟨some 66,.eqs false [.u64,.u64] (.t 64) (.t 65),some (63,false)⟩,oG 67 (.pick (.t 63) kT (.t 66))] 67
 (cR [oL 68 2 6,oL 69 2 12,oC 70 106 [.t 69],oP 2 6 68,oP 2 7 70,oI 8 0]
 .ret)
 (cI [oL 71 2 6,oC 72 212 [.t 71]] 72
 (cR [oG 73 (.build [zI,zU] []),oG 74 (.build [zI,zU] []),oP 2 6 73,oP 2 7 74,oI 8 2]
 .ret)
 (cR [oL 76 2 6,oC 77 162 [kI 1],oC 78 66 [.t 76,.t 77],oM 75 78,oJ 79 75 0,oJ 80 75 1,oP 2 6 79]
 (cR [oL 82 2 5,oC 83 105 [.t 82],oL 84 2 12,oC 85 109 [.t 83,.t 84],oM 81 85,oJ 86 81 0,oJ 87 81 1,oA 15 [zU,zU],oP 2 15 86,oM 16 87]
 (cR [oL 88 2 6,oL 89 2 15,oC 90 106 [.t 89],oP 2 6 88,oP 2 7 90,oI 8 0]
 .ret)))))))))))))⟩}).1
theorem eU.aA:Ck Tryz.f160 eU.c:=cK
theorem eU.ent:EnN 160:=eN Tryz.func160
def Dt.c:SF:=(⟨_,by dsimp⟩:{c:SF//c=⟨8,[.c 2 true 2],
 (cR [oA 2 [zI,zU]]
 (cR [oM 3 0,oX 4 .shr (.t 3) (kU 63),oM 5 0,oG 6 (.cH .u64 (.t 5)),oG 7 (.build [zI,zU] [(0,1,.t 4),(1,1,.t 6)]),oP 2 2 7]
 .ret))⟩}).1
theorem Dt.aA:Ck Tryz.f162 Dt.c:=cK
theorem Dt.ent:EnN 162:=eN Tryz.func162
def sN.c:SF:=(⟨_,by dsimp⟩:{c:SF//c=⟨29,[.t 4],
 (cR [oB 2 0,oB 3 1,oI 4 0]
 (.seq (.block 0
 (cR [oL 6 2 2,oL 7 2 3,oG 8 (.eqs false [.i64,.u64] (.t 6) (.t 7)),oM 5 8]
 (.cond (.t 5)
 (cR [oI 4 0]
 .ret)
 (cR [oD 10 0 2,oS 11 1 10 2,oD 12 0 3,oS 13 1 12 3,oY 14 .lss 11 13,oM 15 14,⟨some 16,.aI 0 (.t 2),some (15,false)⟩,⟨some 17,.load false 1 (.t 16) (some 2),some (15,false)⟩,⟨some 18,.aI 0 (.t 3),some (15,false)⟩,⟨some 19,.load false 1 (.t 18) (some 3),some (15,false)⟩,⟨some 20,.bin .eql (.t 17) (.t 19),some (15,false)⟩,⟨some 21,.mv (.t 20),some (15,false)⟩,⟨some 22,.aI 1 (.t 2),some (21,true)⟩,⟨some 23,.load false 1 (.t 22) (some 2),some (21,true)⟩,⟨some 24,.aI 1 (.t 3),some (21,true)⟩,⟨some 25,.load false 1 (.t 24) (some 3),some (21,true)⟩,⟨some 26,.bin .lss (.t 23) (.t 25),some (21,true)⟩,⟨some 27,.pick (.t 21) (.t 26) kF,some (15,false)⟩,oG 28 (.pick (.t 15) kT (.t 27)),oM 9 28]
 (.cond (.t 9)
 (cR [oI 4 (-1)]
 .ret)
 .skip)))))
 (cR [oI 4 1]
 .ret)))⟩}).1
theorem sN.aA:Ck Tryz.f165 sN.c:=cK
theorem sN.ent:EnN 165:=eN Tryz.func165
def yR.c:SF:=(⟨_,by dsimp⟩:{c:SF//c=⟨18,[.c 2 true 3,.t 3],
 (cR [oA 2 [zI,zI,zI],oG 3 (.mv kF)]
 (.seq (cR [oM 4 0]
 (.block 0
 (cR [oZ 6 .eql 4 1,oM 5 6]
 (.cond (.t 5)
 (cR [oG 7 (.build [zI,zI,zI] [(0,1,kI 36204)]),oP 3 2 7,oG 3 (.mv kT)]
 .ret)
 (cR [oZ 9 .eql 4 2,oM 8 9]
 (.cond (.t 8)
 (cR [oG 10 (.build [zI,zI,zI] [(0,1,kI 51544),(1,1,kI 43167),(2,1,kI 0xb5303ad38b80000)]),oP 3 2 10,oG 3 (.mv kT)]
 .ret)
 (cR [oZ 12 .eql 4 3,oM 11 12]
 (.cond (.t 11)
 (cR [oG 13 (.build [zI,zI,zI] [(0,1,kI 44244),(1,1,kI 19)]),oP 3 2 13,oG 3 (.mv kT)]
 .ret)
 (cR [oZ 15 .eql 4 4,oM 14 15]
 (.cond (.t 14)
 (cR [oG 16 (.build [zI,zI,zI] [(0,1,kI 40587)]),oP 3 2 16,oG 3 (.mv kT)]
 .ret)
 .skip))))))))))
 (cR [oG 17 (.build [zI,zI,zI] []),oP 3 2 17,oG 3 (.mv kF)]
 .ret)))⟩}).1
theorem yR.aA:Ck Tryz.f169 yR.c:=cK
theorem yR.ent:EnN 169:=eN Tryz.func169
def zF.c:SF:=(⟨_,by dsimp⟩:{c:SF//c=⟨34,[.c 2 true 2,.t 3],
 (cR [oB 1 0,oA 2 [zI,zU],oI 3 0]
 (.seq (cR [oL 7 3 1,oC 8 221 [.t 7],oM 4 8]
 (cR [oM 9 4,oZ 10 .neq 9 0]
 (.cond (.t 10)
 (cR [oG 11 (.build [zI,zU] []),oM 12 4,oP 2 2 11,oM 3 12]
 .ret)
 .skip)))
 (cR [oD 14 0 1,oS 15 1 14 1,oZ 16 .mul 15 86400,oD 17 1 1,oS 18 1 17 1,oY 19 .add 16 18,oC 20 162 [.t 19],oC 21 162 [kI 0xde0b6b3a7640000],oC 22 206 [.t 20,.t 21],oM 13 22,oJ 23 13 0,oJ 24 13 1,oA 5 [zI,zU],oP 2 5 23,oM 6 24]
 (cR [oL 26 2 5,oD 27 2 1,oS 28 1 27 1,oC 29 162 [.t 28],oC 30 64 [.t 26,.t 29],oM 25 30,oJ 31 25 0,oJ 32 25 1,oP 2 5 31]
 (cR [oL 33 2 5,oP 2 2 33,oI 3 0]
 .ret)))))⟩}).1
theorem zF.aA:Ck Tryz.f170 zF.c:=cK
theorem zF.ent:EnN 170:=eN Tryz.func170
def Aq.c:SF:=(⟨_,by dsimp⟩:{c:SF//c=⟨57,[.c 2 true 3,.t 3],
 (cR [oB 1 0,oA 2 [zI,zI,zI],oI 3 0]
 (cR [oL 17 2 1,oC 18 162 [kI 0xde0b6b3a7640000],oC 19 222 [.t 17,.t 18],oM 16 19,oJ 20 16 0,oJ 21 16 1,oJ 22 16 2,oA 4 [zI,zU],oA 5 [zI,zU],oP 2 4 20,oP 2 5 21,oM 6 22]
 (cR [oL 24 2 4,oC 25 162 [kI 86400],oC 26 222 [.t 24,.t 25],oM 23 26,oJ 27 23 0,oJ 28 23 1,oJ 29 23 2,oA 7 [zI,zU],oA 8 [zI,zU],oP 2 7 27,oP 2 8 28,oM 9 29]
 (cR [oL 31 2 7,oC 32 223 [.t 31],oM 30 32,oJ 33 30 0,oJ 34 30 1,oM 10 33,oM 11 34]
 (cI [oM 35 11,oZ 36 .neq 35 0,oM 37 36,⟨some 38,.mv (.t 10),some (37,false)⟩,⟨some 39,.call 224 [.t 38],some (37,false)⟩,⟨some 40,.not (.t 39),some (37,false)⟩,oG 41 (.pick (.t 37) kT (.t 40))] 41
 (cR [oG 42 (.build [zI,zI,zI] []),oP 3 2 42,oI 3 2]
 .ret)
 (cR [oL 44 2 8,oC 45 223 [.t 44],oM 43 45,oJ 46 43 0,oJ 47 43 1,oM 12 46,oM 13 47]
 (cR [oL 49 2 5,oC 50 223 [.t 49],oM 48 50,oJ 51 48 0,oJ 52 48 1,oM 14 51,oM 15 52]
 (cR [oM 53 10,oM 54 12,oM 55 14,oG 56 (.build [zI,zI,zI] [(0,1,.t 53),(1,1,.t 54),(2,1,.t 55)]),oP 3 2 56,oI 3 0]
 .ret))))))))⟩}).1
theorem Aq.aA:Ck Tryz.f171 Aq.c:=cK
theorem Aq.ent:EnN 171:=eN Tryz.func171
def Fi.c:SF:=(⟨_,by dsimp⟩:{c:SF//c=⟨17,[.t 4],
 (cR [oG 4 (.mv (.k (.int .u32 0)))]
 (cR [oM 6 1,oG 7 (.cH .u64 (.t 6)),oX 8 .and (.t 7) (kU 31),oM 5 8]
 (cR [oM 9 0,oM 10 5,oY 11 .shl 9 10,oM 12 0,oM 13 5,oX 14 .sub (kU 32) (.t 13),oY 15 .shr 12 14,oY 16 .or 11 15,oM 4 16]
 .ret)))⟩}).1
theorem Fi.aA:Ck Tryz.f197 Fi.c:=cK
theorem Fi.ent:EnN 197:=eN Tryz.func197
def gP.c:SF:=(⟨_,by dsimp⟩:{c:SF//c=⟨31,[.c 4 true 2,.t 5],
 (cR [oB 2 0,oB 3 1,oA 4 [zI,zU],oI 5 0]
 (cR [oL 9 2 2,oC 10 209 [.t 9],oL 11 2 3,oC 12 209 [.t 11],oC 13 208 [.t 10,.t 12],oM 8 13,oJ 14 8 0,oJ 15 8 1,oA 6 [zU,zU],oA 7 [zU,zU],oP 2 6 14,oP 2 7 15]
 (cI [oL 16 2 6,oG 17 (.build [zU,zU] []),oG 18 (.eqs true [.u64,.u64] (.t 16) (.t 17))] 18
 (cR [oG 19 (.build [zI,zU] []),oP 2 4 19,oI 5 2]
 .ret)
 (cR [oL 20 2 7,oD 21 0 2,oS 22 1 21 2,oZ 23 .lss 22 0,oD 24 0 3,oS 25 1 24 3,oZ 26 .lss 25 0,oG 27 (.qD true (.t 23) (.t 26)),oC 28 211 [.t 20,.t 27],oJ 29 28 0,oJ 30 28 1,oP 2 4 29,oM 5 30]
 .ret))))⟩}).1
theorem gP.aA:Ck Tryz.f206 gP.c:=cK
theorem gP.ent:EnN 206:=eN Tryz.func206
def Bs.c:SF:=(⟨_,by dsimp⟩:{c:SF//c=⟨7,[.t 2],
 (cR [oB 1 0,oG 2 (.mv kF)]
 (cR [oL 3 2 1,oG 4 (.build [zI,zU] []),oC 5 165 [.t 3,.t 4],oZ 6 .gtr 5 0,oM 2 6]
 .ret))⟩}).1
theorem Bs.aA:Ck Tryz.f207 Bs.c:=cK
theorem Bs.ent:EnN 207:=eN Tryz.func207
def zH.c:SF:=(⟨_,by dsimp⟩:{c:SF//c=⟨18,[.c 2 true 2],
 (cR [oB 1 0,oA 2 [zU,zU]]
 (cI [oD 5 0 1,oS 6 1 5 1,oZ 7 .geq 6 0] 7
 (cR [oL 8 2 1,oC 9 105 [.t 8],oP 2 2 9]
 .ret)
 (cR [oG 11 (.build [zU,zU] []),oL 12 2 1,oC 13 105 [.t 12],oC 14 109 [.t 11,.t 13],oM 10 14,oJ 15 10 0,oJ 16 10 1,oA 3 [zU,zU],oP 2 3 15,oM 4 16]
 (cR [oL 17 2 3,oP 2 2 17]
 .ret))))⟩}).1
theorem zH.aA:Ck Tryz.f209 zH.c:=cK
theorem zH.ent:EnN 209:=eN Tryz.func209
def iM.l1:SC:=
 (.seq (.region [⟨some 31,.bin .lss (.t 30) (.k (.int .i64 128)),none⟩])
 (.seq (.cond (.t 31)
 .skip
 (.exit 0))
 (.seq (.block 1
 (.seq (.region [⟨some 9,.mv (.k (.bool false)),none⟩])
 (.seq (.region [⟨some 33,.load true 2 (.t 7) (some 7),none⟩,⟨some 34,.aI 0 (.t 4),none⟩,⟨some 35,.load false 1 (.t 34) (some 4),none⟩,⟨some 36,.bin .shr (.t 35) (.k (.int .u64 63)),none⟩,⟨some 37,.call 256 [(.t 33),(.t 36)],none⟩,⟨some 32,.mv (.t 37),none⟩,⟨some 38,.ext (.t 32) 0,none⟩,⟨some 39,.ext (.t 32) 1,none⟩,⟨none,.store 2 (.t 7) (.t 38) 7,none⟩,⟨some 9,.mv (.t 39),none⟩])
 (.seq (.region [⟨some 41,.load true 2 (.t 4) (some 4),none⟩,⟨some 42,.call 256 [(.t 41),(.k (.int .u64 0))],none⟩,⟨some 40,.mv (.t 42),none⟩,⟨some 43,.ext (.t 40) 0,none⟩,⟨some 44,.ext (.t 40) 1,none⟩,⟨none,.store 2 (.t 4) (.t 43) 4,none⟩])
 (.seq (.region [⟨some 46,.load true 2 (.t 6) (some 6),none⟩,⟨some 47,.call 256 [(.t 46),(.k (.int .u64 0))],none⟩,⟨some 45,.mv (.t 47),none⟩,⟨some 48,.ext (.t 45) 0,none⟩,⟨some 49,.ext (.t 45) 1,none⟩,⟨none,.store 2 (.t 6) (.t 48) 6,none⟩])
 (.seq (.region [⟨some 50,.mv (.t 9),none⟩,⟨some 51,.mv (.t 50),none⟩,⟨some 52,.load true 2 (.t 7) (some 7),some (51,false)⟩,⟨some 53,.load true 2 (.t 5) (some 5),some (51,false)⟩,⟨some 54,.call 254 [(.t 52),(.t 53)],some (51,false)⟩,⟨some 55,.bin .geq (.t 54) (.k (.int .i64 0)),some (51,false)⟩,⟨some 56,.pick (.t 51) (.k (.bool true)) (.t 55),none⟩])
 (.cond (.t 56)
 (.seq (.region [⟨some 58,.load true 2 (.t 7) (some 7),none⟩,⟨some 59,.load true 2 (.t 5) (some 5),none⟩,⟨some 60,.call 109 [(.t 58),(.t 59)],none⟩,⟨some 57,.mv (.t 60),none⟩,⟨some 61,.ext (.t 57) 0,none⟩,⟨some 62,.ext (.t 57) 1,none⟩,⟨none,.store 2 (.t 7) (.t 61) 7,none⟩])
 (.region [⟨some 63,.aI 1 (.t 6),none⟩,⟨some 64,.load false 1 (.t 63) (some 6),none⟩,⟨some 65,.bin .or (.t 64) (.k (.int .u64 1)),none⟩,⟨some 66,.aI 1 (.t 6),none⟩,⟨none,.store 1 (.t 66) (.t 65) 6,none⟩]))
 .skip)))))))
 (.region [⟨some 67,.bin .add (.t 30) (.k (.int .i64 1)),none⟩,⟨some 30,.mv (.t 67),none⟩]))))
def iM.c:SF:=(⟨_,by dsimp⟩:{c:SF//c=⟨70,[.c 6 true 2,.c 7 true 2,.t 8],
 (cR [oB 3 0,oB 4 1,oB 5 2,oA 6 [zU,zU],oA 7 [zU,zU],oG 8 (.mv kF)]
 (cI [oL 10 2 3,oL 11 2 5,oC 12 254 [.t 10,.t 11],oZ 13 .geq 12 0] 13
 (cR [oG 14 (.build [zU,zU] []),oG 15 (.build [zU,zU] []),oP 2 6 14,oP 2 7 15,oG 8 (.mv kF)]
 .ret)
 (cI [oD 16 0 5,oS 17 1 16 5,oX 18 .eql (.t 17) (kU 0)] 18
 (cR [oL 20 2 3,oL 21 2 4,oD 22 1 5,oS 23 1 22 5,oC 24 255 [.t 20,.t 21,.t 23],oM 19 24,oJ 25 19 0,oJ 26 19 1,oP 2 6 25,oP 2 7 26]
 (cR [oL 27 2 6,oL 28 2 7,oP 2 6 27,oP 2 7 28,oG 8 (.mv kT)]
 .ret))
 (cR [oL 29 2 3,oP 2 7 29]
 (.seq (cR [oI 30 0]
 (.block 0
 (.loop iM.l1)))
 (cR [oL 68 2 6,oL 69 2 7,oP 2 6 68,oP 2 7 69,oG 8 (.mv kT)]
 .ret))))))⟩}).1
theorem iM.aA:Ck Tryz.f210 iM.c:=cK
theorem iM.ent:EnN 210:=eN Tryz.func210
def sA.c:SF:=(⟨_,by dsimp⟩:{c:SF//c=⟨38,[.c 4 true 2,.t 5],
 (cR [oB 2 0,oA 4 [zI,zU],oI 5 0]
 (cR [oG 9 (.build [zU,zU] [(0,1,kU 0x8000000000000000)]),oA 6 [zU,zU],oP 2 6 9]
 (.seq (.block 0
 (cR [oM 11 1,oM 12 11,⟨some 13,.load true 2 (.t 2) (some 2),some (12,true)⟩,⟨some 14,.load true 2 (.t 6) (some 6),some (12,true)⟩,⟨some 15,.call 254 [.t 13,.t 14],some (12,true)⟩,⟨some 16,.bin .leq (.t 15) (kI 0),some (12,true)⟩,oG 17 (.pick (.t 12) (.t 16) kF),oM 10 17]
 (.cond (.t 10)
 (cR [oG 19 (.build [zU,zU] []),oL 20 2 2,oC 21 109 [.t 19,.t 20],oM 18 21,oJ 22 18 0,oJ 23 18 1,oA 7 [zU,zU],oP 2 7 22,oM 8 23]
 (cR [oL 24 2 7,oC 25 106 [.t 24],oP 2 4 25,oI 5 0]
 .ret))
 (cR [oM 27 1,oG 28 (.not (.t 27)),oM 29 28,⟨some 30,.load true 2 (.t 2) (some 2),some (29,true)⟩,⟨some 31,.load true 2 (.t 6) (some 6),some (29,true)⟩,⟨some 32,.call 254 [.t 30,.t 31],some (29,true)⟩,⟨some 33,.bin .lss (.t 32) (kI 0),some (29,true)⟩,oG 34 (.pick (.t 29) (.t 33) kF),oM 26 34]
 (.cond (.t 26)
 (cR [oL 35 2 2,oC 36 106 [.t 35],oP 2 4 36,oI 5 0]
 .ret)
 .skip)))))
 (cR [oG 37 (.build [zI,zU] []),oP 2 4 37,oI 5 2]
 .ret))))⟩}).1
theorem sA.aA:Ck Tryz.f211 sA.c:=cK
theorem sA.ent:EnN 211:=eN Tryz.func211
def xZ.c:SF:=(⟨_,by dsimp⟩:{c:SF//c=⟨6,[.t 2],
 (cR [oB 1 0,oG 2 (.mv kF)]
 (cR [oL 3 2 1,oG 4 (.build [zI,zU] [(0,1,kI (-0x8000000000000000))]),oG 5 (.eqs false [.i64,.u64] (.t 3) (.t 4)),oM 2 5]
 .ret))⟩}).1
theorem xZ.aA:Ck Tryz.f212 xZ.c:=cK
theorem xZ.ent:EnN 212:=eN Tryz.func212
def Bj.c:SF:=(⟨_,by dsimp⟩:{c:SF//c=⟨12,[.t 2],
 (cR [oB 1 0,oI 2 0]
 (.seq (.block 0
 (cR [oL 4 3 1,oC 5 257 [.t 4],oG 6 (.not (.t 5)),oM 3 6]
 (.cond (.t 3)
 (cR [oI 2 1]
 .ret)
 (cR [oD 8 0 1,oS 9 1 8 1,oC 10 224 [.t 9],oG 11 (.not (.t 10)),oM 7 11]
 (.cond (.t 7)
 (cR [oI 2 2]
 .ret)
 .skip)))))
 (cR [oI 2 0]
 .ret)))⟩}).1
theorem Bj.aA:Ck Tryz.f221 Bj.c:=cK
theorem Bj.ent:EnN 221:=eN Tryz.func221
def wZ.c:SF:=(⟨_,by dsimp⟩:{c:SF//c=⟨14,[.c 4 true 2,.c 5 true 2,.t 6],
 (cR [oB 2 0,oB 3 1,oA 4 [zI,zU],oA 5 [zI,zU],oI 6 0]
 (cR [oL 7 2 2,oC 8 162 [kI 1],oL 9 2 3,oC 10 160 [.t 7,.t 8,.t 9],oJ 11 10 0,oJ 12 10 1,oJ 13 10 2,oP 2 4 11,oP 2 5 12,oM 6 13]
 .ret))⟩}).1
theorem wZ.aA:Ck Tryz.f222 wZ.c:=cK
theorem wZ.ent:EnN 222:=eN Tryz.func222
def zV.c:SF:=(⟨_,by dsimp⟩:{c:SF//c=⟨13,[.t 2,.t 3],
 (cR [oB 1 0,oI 2 0,oI 3 0]
 (.seq (cR [oD 5 1 1,oS 6 1 5 1,oG 7 (.cH .i64 (.t 6)),oM 4 7]
 (cR [oM 8 4,oC 9 162 [.t 8],oL 10 2 1,oG 11 (.eqs false [.i64,.u64] (.t 9) (.t 10))]
 (.cond (.t 11)
 (cR [oM 12 4,oM 2 12,oI 3 0]
 .ret)
 .skip)))
 (cR [oI 2 0,oI 3 2]
 .ret)))⟩}).1
theorem zV.aA:Ck Tryz.f223 zV.c:=cK
theorem zV.ent:EnN 223:=eN Tryz.func223
def Bz.c:SF:=(⟨_,by dsimp⟩:{c:SF//c=⟨9,[.t 2],
 (cR [oG 2 (.mv kF)]
 (cR [oM 3 0,oZ 4 .geq 3 (-1099511627776),oM 5 4,⟨some 6,.mv (.t 0),some (5,true)⟩,⟨some 7,.bin .leq (.t 6) (kI 1099511627776),some (5,true)⟩,oG 8 (.pick (.t 5) (.t 7) kF),oM 2 8]
 .ret))⟩}).1
theorem Bz.aA:Ck Tryz.f224 Bz.c:=cK
theorem Bz.ent:EnN 224:=eN Tryz.func224
def rE.c:SF:=(⟨_,by dsimp⟩:{c:SF//c=⟨29,[.t 4],
 (cR [oB 2 0,oB 3 1,oI 4 0]
 (.seq (.block 0
 (cR [oL 6 2 2,oL 7 2 3,oG 8 (.eqs false [.u64,.u64] (.t 6) (.t 7)),oM 5 8]
 (.cond (.t 5)
 (cR [oI 4 0]
 .ret)
 (cR [oD 10 0 2,oS 11 1 10 2,oD 12 0 3,oS 13 1 12 3,oY 14 .lss 11 13,oM 15 14,⟨some 16,.aI 0 (.t 2),some (15,false)⟩,⟨some 17,.load false 1 (.t 16) (some 2),some (15,false)⟩,⟨some 18,.aI 0 (.t 3),some (15,false)⟩,⟨some 19,.load false 1 (.t 18) (some 3),some (15,false)⟩,⟨some 20,.bin .eql (.t 17) (.t 19),some (15,false)⟩,⟨some 21,.mv (.t 20),some (15,false)⟩,⟨some 22,.aI 1 (.t 2),some (21,true)⟩,⟨some 23,.load false 1 (.t 22) (some 2),some (21,true)⟩,⟨some 24,.aI 1 (.t 3),some (21,true)⟩,⟨some 25,.load false 1 (.t 24) (some 3),some (21,true)⟩,⟨some 26,.bin .lss (.t 23) (.t 25),some (21,true)⟩,⟨some 27,.pick (.t 21) (.t 26) kF,some (15,false)⟩,oG 28 (.pick (.t 15) kT (.t 27)),oM 9 28]
 (.cond (.t 9)
 (cR [oI 4 (-1)]
 .ret)
 .skip)))))
 (cR [oI 4 1]
 .ret)))⟩}).1
theorem rE.aA:Ck Tryz.f254 rE.c:=cK
theorem rE.ent:EnN 254:=eN Tryz.func254
def Ew.c:SF:=(⟨_,by dsimp⟩:{c:SF//c=⟨33,[.c 6 true 2,.c 7 true 2],
 (cR [oB 3 0,oB 4 1,oA 6 [zU,zU],oA 7 [zU,zU]]
 (cR [oD 12 1 3,oS 13 1 12 3,oD 14 0 4,oS 15 1 14 4,oM 16 2,oC 17 274 [.t 13,.t 15,.t 16],oM 11 17,oJ 18 11 0,oJ 19 11 1,oM 8 18,oM 9 19]
 (cR [oM 21 9,oD 22 1 4,oS 23 1 22 4,oM 24 2,oC 25 274 [.t 21,.t 23,.t 24],oM 20 25,oJ 26 20 0,oJ 27 20 1,oM 10 26,oM 9 27]
 (cR [oM 28 8,oM 29 10,oG 30 (.build [zU,zU] [(0,1,.t 28),(1,1,.t 29)]),oM 31 9,oG 32 (.build [zU,zU] [(0,1,kU 0),(1,1,.t 31)]),oP 2 6 30,oP 2 7 32]
 .ret))))⟩}).1
theorem Ew.aA:Ck Tryz.f255 Ew.c:=cK
theorem Ew.ent:EnN 255:=eN Tryz.func255
def Ab.c:SF:=(⟨_,by dsimp⟩:{c:SF//c=⟨23,[.c 4 true 2,.t 5],
 (cR [oB 2 0,oA 4 [zU,zU],oG 5 (.mv kF)]
 (cR [oD 6 0 2,oS 7 1 6 2,oX 8 .shl (.t 7) (kU 1),oD 9 1 2,oS 10 1 9 2,oX 11 .shr (.t 10) (kU 63),oY 12 .or 8 11,oD 13 1 2,oS 14 1 13 2,oX 15 .shl (.t 14) (kU 1),oM 16 1,oY 17 .or 15 16,oG 18 (.build [zU,zU] [(0,1,.t 12),(1,1,.t 17)]),oD 19 0 2,oS 20 1 19 2,oX 21 .shr (.t 20) (kU 63),oX 22 .eql (.t 21) (kU 1),oP 2 4 18,oM 5 22]
 .ret))⟩}).1
theorem Ab.aA:Ck Tryz.f256 Ab.c:=cK
theorem Ab.ent:EnN 256:=eN Tryz.func256
def Ey.c:SF:=(⟨_,by dsimp⟩:{c:SF//c=⟨21,[.t 2],
 (cR [oB 1 0,oG 2 (.mv kF)]
 (cR [oD 3 1 1,oS 4 1 3 1,oZ 5 .geq 4 0,oM 6 5,⟨some 7,.aI 1 (.t 1),some (6,true)⟩,⟨some 8,.load false 1 (.t 7) (some 1),some (6,true)⟩,⟨some 9,.bin .lss (.t 8) (kI 86400),some (6,true)⟩,oG 10 (.pick (.t 6) (.t 9) kF),oM 11 10,⟨some 12,.aI 2 (.t 1),some (11,true)⟩,⟨some 13,.load false 1 (.t 12) (some 1),some (11,true)⟩,⟨some 14,.bin .geq (.t 13) (kI 0),some (11,true)⟩,oG 15 (.pick (.t 11) (.t 14) kF),oM 16 15,⟨some 17,.aI 2 (.t 1),some (16,true)⟩,⟨some 18,.load false 1 (.t 17) (some 1),some (16,true)⟩,⟨some 19,.bin .lss (.t 18) (kI 0xde0b6b3a7640000),some (16,true)⟩,oG 20 (.pick (.t 16) (.t 19) kF),oM 2 20]
 .ret))⟩}).1
theorem Ey.aA:Ck Tryz.f257 Ey.c:=cK
theorem Ey.ent:EnN 257:=eN Tryz.func257
def gD.l1:SC:=
 (.seq (.seq (.region [⟨some 67,.mv (.t 15),none⟩,⟨some 68,.bin .geq (.t 67) (.k (.int .u64 4294967296)),none⟩,⟨some 69,.mv (.t 68),none⟩,⟨some 70,.mv (.t 15),some (69,false)⟩,⟨some 71,.mv (.t 10),some (69,false)⟩,⟨some 72,.bin .mul (.t 70) (.t 71),some (69,false)⟩,⟨some 73,.mv (.t 16),some (69,false)⟩,⟨some 74,.bin .mul (.k (.int .u64 4294967296)) (.t 73),some (69,false)⟩,⟨some 75,.mv (.t 13),some (69,false)⟩,⟨some 76,.bin .add (.t 74) (.t 75),some (69,false)⟩,⟨some 77,.bin .gtr (.t 72) (.t 76),some (69,false)⟩,⟨some 78,.pick (.t 69) (.k (.bool true)) (.t 77),none⟩])
 (.cond (.t 78)
 .skip
 (.exit 0)))
 (.block 1
 (.seq (.region [⟨some 79,.mv (.t 15),none⟩,⟨some 80,.bin .sub (.t 79) (.k (.int .u64 1)),none⟩,⟨some 15,.mv (.t 80),none⟩])
 (.seq (.region [⟨some 81,.mv (.t 16),none⟩,⟨some 82,.mv (.t 9),none⟩,⟨some 83,.bin .add (.t 81) (.t 82),none⟩,⟨some 16,.mv (.t 83),none⟩])
 (.seq (.region [⟨some 84,.mv (.t 16),none⟩,⟨some 85,.bin .geq (.t 84) (.k (.int .u64 4294967296)),none⟩])
 (.cond (.t 85)
 (.exit 0)
 .skip))))))
def gD.l2:SC:=
 (.seq (.seq (.region [⟨some 102,.mv (.t 18),none⟩,⟨some 103,.bin .geq (.t 102) (.k (.int .u64 4294967296)),none⟩,⟨some 104,.mv (.t 103),none⟩,⟨some 105,.mv (.t 18),some (104,false)⟩,⟨some 106,.mv (.t 10),some (104,false)⟩,⟨some 107,.bin .mul (.t 105) (.t 106),some (104,false)⟩,⟨some 108,.mv (.t 16),some (104,false)⟩,⟨some 109,.bin .mul (.k (.int .u64 4294967296)) (.t 108),some (104,false)⟩,⟨some 110,.mv (.t 14),some (104,false)⟩,⟨some 111,.bin .add (.t 109) (.t 110),some (104,false)⟩,⟨some 112,.bin .gtr (.t 107) (.t 111),some (104,false)⟩,⟨some 113,.pick (.t 104) (.k (.bool true)) (.t 112),none⟩])
 (.cond (.t 113)
 .skip
 (.exit 2)))
 (.block 3
 (.seq (.region [⟨some 114,.mv (.t 18),none⟩,⟨some 115,.bin .sub (.t 114) (.k (.int .u64 1)),none⟩,⟨some 18,.mv (.t 115),none⟩])
 (.seq (.region [⟨some 116,.mv (.t 16),none⟩,⟨some 117,.mv (.t 9),none⟩,⟨some 118,.bin .add (.t 116) (.t 117),none⟩,⟨some 16,.mv (.t 118),none⟩])
 (.seq (.region [⟨some 119,.mv (.t 16),none⟩,⟨some 120,.bin .geq (.t 119) (.k (.int .u64 4294967296)),none⟩])
 (.cond (.t 120)
 (.exit 2)
 .skip))))))
def gD.c:SF:=(⟨_,by dsimp⟩:{c:SF//c=⟨135,[.t 6,.t 7],
 (cR [oG 6 (.mv (kU 0)),oG 7 (.mv (kU 0))]
 (cI [oM 19 2,oX 20 .eql (.t 19) (kU 0)] 20
 .bad
 (cI [oM 22 2,oM 23 0,oY 24 .leq 22 23] 24
 .bad
 (cI [oM 26 0,oX 27 .eql (.t 26) (kU 0)] 27
 (cR [oM 28 1,oM 29 2,oY 30 .quo 28 29,oM 31 1,oM 32 2,oY 33 .rem 31 32,oM 6 30,oM 7 33]
 .ret)
 (cR [oM 34 2,oC 35 290 [.t 34],oG 36 (.cH .u64 (.t 35)),oM 8 36]
 (cR [oM 37 2,oM 38 8,oY 39 .shl 37 38,oM 2 39]
 (cR [oM 40 2,oX 41 .shr (.t 40) (kU 32),oM 9 41]
 (cR [oM 42 2,oX 43 .and (.t 42) (kU 4294967295),oM 10 43]
 (cR [oM 44 0,oM 45 8,oY 46 .shl 44 45,oM 47 1,oM 48 8,oX 49 .sub (kU 64) (.t 48),oY 50 .shr 47 49,oY 51 .or 46 50,oM 11 51]
 (cR [oM 52 1,oM 53 8,oY 54 .shl 52 53,oM 12 54]
 (cR [oM 55 12,oX 56 .shr (.t 55) (kU 32),oM 13 56]
 (cR [oM 57 12,oX 58 .and (.t 57) (kU 4294967295),oM 14 58]
 (cR [oM 59 11,oM 60 9,oY 61 .quo 59 60,oM 15 61]
 (cR [oM 62 11,oM 63 15,oM 64 9,oY 65 .mul 63 64,oY 66 .sub 62 65,oM 16 66]
 (.seq (.block 0
 (.loop gD.l1))
 (cR [oM 86 11,oX 87 .mul (.t 86) (kU 4294967296),oM 88 13,oY 89 .add 87 88,oM 90 15,oM 91 2,oY 92 .mul 90 91,oY 93 .sub 89 92,oM 17 93]
 (cR [oM 94 17,oM 95 9,oY 96 .quo 94 95,oM 18 96]
 (cR [oM 97 17,oM 98 18,oM 99 9,oY 100 .mul 98 99,oY 101 .sub 97 100,oM 16 101]
 (.seq (.block 2
 (.loop gD.l2))
 (cR [oM 121 15,oX 122 .mul (.t 121) (kU 4294967296),oM 123 18,oY 124 .add 122 123,oM 125 17,oX 126 .mul (.t 125) (kU 4294967296),oM 127 14,oY 128 .add 126 127,oM 129 18,oM 130 2,oY 131 .mul 129 130,oY 132 .sub 128 131,oM 133 8,oY 134 .shr 132 133,oM 6 124,oM 7 134]
 .ret))))))))))))))))))))⟩}).1
theorem gD.aA:Ck Tryz.f274 gD.c:=cK
theorem gD.ent:EnN 274:=eN Tryz.func274
theorem bits_LeadingZeros64.ent:EnN 290:=eN Tryz.func290
end Go.Proofs.YtfcbohachbeamaaGreatDoor.E
end
