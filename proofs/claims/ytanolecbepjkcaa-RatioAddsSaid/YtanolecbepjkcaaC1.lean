/- The compact code of the given program's functions, and that it is that code. -/
import Derived.Test.YtanolecbepjkcaaProg
import Derived.Test.YtanolecbepjkcaaVA
import Derived.KernelRfl
set_option linter.unusedVariables false
set_option maxRecDepth 100000
namespace Go.Proofs.Ytanolecbepjkcaa.E
open Go.VC
/-- epact/epactlaw03.RatioMakes -/
def epactlaw03_RatioMakes.c : SF := ⟨41, [.t 4],
 (.seq (.region [⟨some 2, .box (.t 0), none⟩, ⟨some 3, .box (.t 1), none⟩, ⟨some 4, .mv (.k (.bool false)), none⟩])
 (.seq (.region [⟨some 8, .load true 2 (.t 2) (some 2), none⟩, ⟨some 9, .load true 2 (.t 3) (some 3), none⟩, ⟨some 10, .call 22 [(.t 8), (.t 9)], none⟩, ⟨some 7, .mv (.t 10), none⟩, ⟨some 11, .ext (.t 7) 0, none⟩, ⟨some 12, .ext (.t 7) 1, none⟩, ⟨some 5, .alloc [.v (.int .i64 0), .v (.int .u64 0), .v (.int .i64 0), .v (.int .u64 0)], none⟩, ⟨none, .store 4 (.t 5) (.t 11) 5, none⟩, ⟨some 6, .mv (.t 12), none⟩])
 (.seq (.seq (.region [⟨some 13, .load true 2 (.t 3) (some 3), none⟩, ⟨some 14, .call 24 [(.t 13)], none⟩, ⟨some 15, .call 25 [(.k (.int .i64 0))], none⟩, ⟨some 16, .call 23 [(.t 14), (.t 15)], none⟩, ⟨some 17, .bin .leq (.t 16) (.k (.int .i64 0)), none⟩])
 (.cond (.t 17)
 (.seq (.region [⟨some 18, .call 26 [], none⟩, ⟨some 19, .mv (.t 18), none⟩, ⟨some 20, .mv (.t 6), some (19, true)⟩, ⟨some 21, .bin .eql (.t 20) (.k (.int .i64 3)), some (19, true)⟩, ⟨some 22, .pick (.t 19) (.t 21) (.k (.bool false)), none⟩, ⟨some 23, .mv (.t 22), none⟩, ⟨some 24, .load true 4 (.t 5) (some 5), some (23, true)⟩, ⟨some 25, .build [.v (.int .i64 0), .v (.int .u64 0), .v (.int .i64 0), .v (.int .u64 0)] [], some (23, true)⟩, ⟨some 26, .eqs false [.i64, .u64, .i64, .u64] (.t 24) (.t 25), some (23, true)⟩, ⟨some 27, .pick (.t 23) (.t 26) (.k (.bool false)), none⟩, ⟨some 4, .mv (.t 27), none⟩])
 .ret)
 .skip))
 (.seq (.region [⟨some 28, .call 26 [], none⟩, ⟨some 29, .mv (.t 28), none⟩, ⟨some 30, .mv (.t 6), some (29, true)⟩, ⟨some 31, .bin .eql (.t 30) (.k (.int .i64 0)), some (29, true)⟩, ⟨some 32, .pick (.t 29) (.t 31) (.k (.bool false)), none⟩, ⟨some 33, .mv (.t 32), none⟩, ⟨some 34, .load true 4 (.t 5) (some 5), some (33, true)⟩, ⟨some 35, .load true 2 (.t 2) (some 2), some (33, true)⟩, ⟨some 36, .call 24 [(.t 35)], some (33, true)⟩, ⟨some 37, .load true 2 (.t 3) (some 3), some (33, true)⟩, ⟨some 38, .call 24 [(.t 37)], some (33, true)⟩, ⟨some 39, .call 27 [(.t 34), (.t 36), (.t 38)], some (33, true)⟩, ⟨some 40, .pick (.t 33) (.t 39) (.k (.bool false)), none⟩, ⟨some 4, .mv (.t 40), none⟩])
 .ret))))⟩
theorem epactlaw03_RatioMakes.chk : chkFn Try.prog Try.f3 epactlaw03_RatioMakes.c = true := by kernel_rfl
theorem epactlaw03_RatioMakes.ent : ∀ args w, (callFunc 3 args).run Try.prog w = .ok (.enter 3 args) w := enters Try.func3 (by kernel_rfl) (by kernel_rfl)

/-- epact/epactlaw03.RatioWhole -/
def epactlaw03_RatioWhole.c : SF := ⟨43, [.t 2],
 (.seq (.region [⟨some 1, .box (.t 0), none⟩, ⟨some 2, .mv (.k (.bool false)), none⟩])
 (.seq (.seq (.region [⟨some 6, .load true 4 (.t 1) (some 1), none⟩, ⟨some 7, .call 28 [(.t 6)], none⟩, ⟨some 8, .not (.t 7), none⟩])
 (.cond (.t 8)
 (.seq (.region [⟨some 9, .call 26 [], none⟩, ⟨some 2, .mv (.t 9), none⟩])
 .ret)
 .skip))
 (.seq (.region [⟨some 11, .fld 0 (.t 1), none⟩, ⟨some 12, .load true 2 (.t 11) (some 1), none⟩, ⟨some 13, .call 24 [(.t 12)], none⟩, ⟨some 14, .fld 2 (.t 1), none⟩, ⟨some 15, .load true 2 (.t 14) (some 1), none⟩, ⟨some 16, .call 24 [(.t 15)], none⟩, ⟨some 17, .call 29 [(.t 13), (.t 16)], none⟩, ⟨some 10, .mv (.t 17), none⟩, ⟨some 18, .ext (.t 10) 0, none⟩, ⟨some 19, .ext (.t 10) 1, none⟩, ⟨some 3, .alloc [.v (.bool false), .nil .i64], none⟩, ⟨some 4, .alloc [.v (.bool false), .nil .i64], none⟩, ⟨none, .store 2 (.t 3) (.t 18) 3, none⟩, ⟨none, .store 2 (.t 4) (.t 19) 4, none⟩])
 (.seq (.region [⟨some 20, .load true 2 (.t 3) (some 3), none⟩, ⟨some 5, .alloc [.v (.bool false), .nil .i64], none⟩, ⟨none, .store 2 (.t 5) (.t 20) 5, none⟩])
 (.seq (.seq (.region [⟨some 21, .load true 2 (.t 4) (some 4), none⟩, ⟨some 22, .call 25 [(.k (.int .i64 0))], none⟩, ⟨some 23, .call 30 [(.t 21), (.t 22)], none⟩, ⟨some 24, .not (.t 23), none⟩])
 (.cond (.t 24)
 (.region [⟨some 25, .load true 2 (.t 3) (some 3), none⟩, ⟨some 26, .call 25 [(.k (.int .i64 1))], none⟩, ⟨some 27, .call 31 [(.t 25), (.t 26)], none⟩, ⟨none, .store 2 (.t 5) (.t 27) 5, none⟩])
 .skip))
 (.seq (.region [⟨some 28, .call 26 [], none⟩, ⟨some 29, .mv (.t 28), none⟩, ⟨some 30, .load true 4 (.t 1) (some 1), some (29, true)⟩, ⟨some 31, .call 32 [(.t 30)], some (29, true)⟩, ⟨some 32, .call 24 [(.t 31)], some (29, true)⟩, ⟨some 33, .load true 2 (.t 3) (some 3), some (29, true)⟩, ⟨some 34, .call 30 [(.t 32), (.t 33)], some (29, true)⟩, ⟨some 35, .pick (.t 29) (.t 34) (.k (.bool false)), none⟩, ⟨some 36, .mv (.t 35), none⟩, ⟨some 37, .load true 4 (.t 1) (some 1), some (36, true)⟩, ⟨some 38, .call 33 [(.t 37)], some (36, true)⟩, ⟨some 39, .call 24 [(.t 38)], some (36, true)⟩, ⟨some 40, .load true 2 (.t 5) (some 5), some (36, true)⟩, ⟨some 41, .call 30 [(.t 39), (.t 40)], some (36, true)⟩, ⟨some 42, .pick (.t 36) (.t 41) (.k (.bool false)), none⟩, ⟨some 2, .mv (.t 42), none⟩])
 .ret))))))⟩
theorem epactlaw03_RatioWhole.chk : chkFn Try.prog Try.f4 epactlaw03_RatioWhole.c = true := by kernel_rfl
theorem epactlaw03_RatioWhole.ent : ∀ args w, (callFunc 4 args).run Try.prog w = .ok (.enter 4 args) w := enters Try.func4 (by kernel_rfl) (by kernel_rfl)

/-- epact/epactlaw03.RatioCmps -/
def epactlaw03_RatioCmps.c : SF := ⟨52, [.t 4],
 (.seq (.region [⟨some 2, .box (.t 0), none⟩, ⟨some 3, .box (.t 1), none⟩, ⟨some 4, .mv (.k (.bool false)), none⟩])
 (.seq (.seq (.region [⟨some 6, .load true 4 (.t 2) (some 2), none⟩, ⟨some 7, .call 28 [(.t 6)], none⟩, ⟨some 8, .not (.t 7), none⟩, ⟨some 9, .mv (.t 8), none⟩, ⟨some 10, .load true 4 (.t 3) (some 3), some (9, false)⟩, ⟨some 11, .call 28 [(.t 10)], some (9, false)⟩, ⟨some 12, .not (.t 11), some (9, false)⟩, ⟨some 13, .pick (.t 9) (.k (.bool true)) (.t 12), none⟩])
 (.cond (.t 13)
 (.seq (.region [⟨some 14, .call 26 [], none⟩, ⟨some 4, .mv (.t 14), none⟩])
 .ret)
 .skip))
 (.seq (.region [⟨some 15, .fld 0 (.t 2), none⟩, ⟨some 16, .load true 2 (.t 15) (some 2), none⟩, ⟨some 17, .call 24 [(.t 16)], none⟩, ⟨some 18, .fld 2 (.t 3), none⟩, ⟨some 19, .load true 2 (.t 18) (some 3), none⟩, ⟨some 20, .call 24 [(.t 19)], none⟩, ⟨some 21, .call 34 [(.t 17), (.t 20)], none⟩, ⟨some 22, .fld 0 (.t 3), none⟩, ⟨some 23, .load true 2 (.t 22) (some 3), none⟩, ⟨some 24, .call 24 [(.t 23)], none⟩, ⟨some 25, .fld 2 (.t 2), none⟩, ⟨some 26, .load true 2 (.t 25) (some 2), none⟩, ⟨some 27, .call 24 [(.t 26)], none⟩, ⟨some 28, .call 34 [(.t 24), (.t 27)], none⟩, ⟨some 29, .call 23 [(.t 21), (.t 28)], none⟩, ⟨some 5, .mv (.t 29), none⟩])
 (.seq (.region [⟨some 30, .call 26 [], none⟩, ⟨some 31, .mv (.t 30), none⟩, ⟨some 32, .load true 4 (.t 2) (some 2), some (31, true)⟩, ⟨some 33, .load true 4 (.t 3) (some 3), some (31, true)⟩, ⟨some 34, .call 35 [(.t 32), (.t 33)], some (31, true)⟩, ⟨some 35, .mv (.t 5), some (31, true)⟩, ⟨some 36, .bin .eql (.t 34) (.t 35), some (31, true)⟩, ⟨some 37, .pick (.t 31) (.t 36) (.k (.bool false)), none⟩, ⟨some 38, .mv (.t 37), none⟩, ⟨some 39, .load true 4 (.t 3) (some 3), some (38, true)⟩, ⟨some 40, .load true 4 (.t 2) (some 2), some (38, true)⟩, ⟨some 41, .call 35 [(.t 39), (.t 40)], some (38, true)⟩, ⟨some 42, .mv (.t 5), some (38, true)⟩, ⟨some 43, .neg (.t 42), some (38, true)⟩, ⟨some 44, .bin .eql (.t 41) (.t 43), some (38, true)⟩, ⟨some 45, .pick (.t 38) (.t 44) (.k (.bool false)), none⟩, ⟨some 46, .mv (.t 45), none⟩, ⟨some 47, .load true 4 (.t 2) (some 2), some (46, true)⟩, ⟨some 48, .load true 4 (.t 2) (some 2), some (46, true)⟩, ⟨some 49, .call 35 [(.t 47), (.t 48)], some (46, true)⟩, ⟨some 50, .bin .eql (.t 49) (.k (.int .i64 0)), some (46, true)⟩, ⟨some 51, .pick (.t 46) (.t 50) (.k (.bool false)), none⟩, ⟨some 4, .mv (.t 51), none⟩])
 .ret))))⟩
theorem epactlaw03_RatioCmps.chk : chkFn Try.prog Try.f5 epactlaw03_RatioCmps.c = true := by kernel_rfl
theorem epactlaw03_RatioCmps.ent : ∀ args w, (callFunc 5 args).run Try.prog w = .ok (.enter 5 args) w := enters Try.func5 (by kernel_rfl) (by kernel_rfl)

/-- epact/epactlaw07.DayJoins -/
def epactlaw07_DayJoins.c : SF := ⟨46, [.t 2],
 (.seq (.region [⟨some 1, .box (.t 0), none⟩, ⟨some 2, .mv (.k (.bool false)), none⟩])
 (.seq (.region [⟨some 8, .load true 3 (.t 1) (some 1), none⟩, ⟨some 9, .call 36 [(.t 8)], none⟩, ⟨some 7, .mv (.t 9), none⟩, ⟨some 10, .ext (.t 7) 0, none⟩, ⟨some 11, .ext (.t 7) 1, none⟩, ⟨some 3, .alloc [.v (.int .i64 0), .v (.int .u64 0)], none⟩, ⟨none, .store 2 (.t 3) (.t 10) 3, none⟩, ⟨some 4, .mv (.t 11), none⟩])
 (.seq (.seq (.region [⟨some 12, .mv (.t 4), none⟩, ⟨some 13, .load true 3 (.t 1) (some 1), none⟩, ⟨some 14, .call 37 [(.t 13)], none⟩, ⟨some 15, .bin .neq (.t 12) (.t 14), none⟩])
 (.cond (.t 15)
 (.seq (.region [⟨some 2, .mv (.k (.bool false)), none⟩])
 .ret)
 .skip))
 (.seq (.seq (.region [⟨some 16, .mv (.t 4), none⟩, ⟨some 17, .bin .neq (.t 16) (.k (.int .i64 0)), none⟩])
 (.cond (.t 17)
 (.seq (.region [⟨some 18, .call 38 [], none⟩, ⟨some 19, .mv (.t 18), none⟩, ⟨some 20, .load true 2 (.t 3) (some 3), some (19, true)⟩, ⟨some 21, .build [.v (.int .i64 0), .v (.int .u64 0)] [], some (19, true)⟩, ⟨some 22, .eqs false [.i64, .u64] (.t 20) (.t 21), some (19, true)⟩, ⟨some 23, .pick (.t 19) (.t 22) (.k (.bool false)), none⟩, ⟨some 2, .mv (.t 23), none⟩])
 .ret)
 .skip))
 (.seq (.region [⟨some 25, .load true 2 (.t 3) (some 3), none⟩, ⟨some 26, .call 39 [(.t 25)], none⟩, ⟨some 24, .mv (.t 26), none⟩, ⟨some 27, .ext (.t 24) 0, none⟩, ⟨some 28, .ext (.t 24) 1, none⟩, ⟨some 5, .alloc [.v (.int .i64 0), .v (.int .i64 0), .v (.int .i64 0)], none⟩, ⟨none, .store 3 (.t 5) (.t 27) 5, none⟩, ⟨some 6, .mv (.t 28), none⟩])
 (.seq (.region [⟨some 29, .call 38 [], none⟩, ⟨some 30, .mv (.t 29), none⟩, ⟨some 31, .load true 2 (.t 3) (some 3), some (30, true)⟩, ⟨some 32, .call 24 [(.t 31)], some (30, true)⟩, ⟨some 33, .load true 3 (.t 1) (some 1), some (30, true)⟩, ⟨some 34, .call 40 [(.t 33)], some (30, true)⟩, ⟨some 35, .call 30 [(.t 32), (.t 34)], some (30, true)⟩, ⟨some 36, .pick (.t 30) (.t 35) (.k (.bool false)), none⟩, ⟨some 37, .mv (.t 36), none⟩, ⟨some 38, .mv (.t 6), some (37, true)⟩, ⟨some 39, .bin .eql (.t 38) (.k (.int .i64 0)), some (37, true)⟩, ⟨some 40, .pick (.t 37) (.t 39) (.k (.bool false)), none⟩, ⟨some 41, .mv (.t 40), none⟩, ⟨some 42, .load true 3 (.t 5) (some 5), some (41, true)⟩, ⟨some 43, .load true 3 (.t 1) (some 1), some (41, true)⟩, ⟨some 44, .eqs false [.i64, .i64, .i64] (.t 42) (.t 43), some (41, true)⟩, ⟨some 45, .pick (.t 41) (.t 44) (.k (.bool false)), none⟩, ⟨some 2, .mv (.t 45), none⟩])
 .ret))))))⟩
theorem epactlaw07_DayJoins.chk : chkFn Try.prog Try.f6 epactlaw07_DayJoins.c = true := by kernel_rfl
theorem epactlaw07_DayJoins.ent : ∀ args w, (callFunc 6 args).run Try.prog w = .ok (.enter 6 args) w := enters Try.func6 (by kernel_rfl) (by kernel_rfl)

/-- epact/epactlaw07.DaySplits -/
def epactlaw07_DaySplits.c : SF := ⟨56, [.t 2],
 (.seq (.region [⟨some 1, .box (.t 0), none⟩, ⟨some 2, .mv (.k (.bool false)), none⟩])
 (.seq (.region [⟨some 10, .load true 2 (.t 1) (some 1), none⟩, ⟨some 11, .call 39 [(.t 10)], none⟩, ⟨some 9, .mv (.t 11), none⟩, ⟨some 12, .ext (.t 9) 0, none⟩, ⟨some 13, .ext (.t 9) 1, none⟩, ⟨some 3, .alloc [.v (.int .i64 0), .v (.int .i64 0), .v (.int .i64 0)], none⟩, ⟨none, .store 3 (.t 3) (.t 12) 3, none⟩, ⟨some 4, .mv (.t 13), none⟩])
 (.seq (.region [⟨some 15, .load true 2 (.t 1) (some 1), none⟩, ⟨some 16, .call 24 [(.t 15)], none⟩, ⟨some 17, .call 41 [(.t 16)], none⟩, ⟨some 14, .mv (.t 17), none⟩, ⟨some 18, .ext (.t 14) 0, none⟩, ⟨some 19, .ext (.t 14) 1, none⟩, ⟨some 5, .alloc [.v (.int .i64 0), .v (.int .i64 0), .v (.int .i64 0)], none⟩, ⟨none, .store 3 (.t 5) (.t 18) 5, none⟩, ⟨some 6, .mv (.t 19), none⟩])
 (.seq (.seq (.region [⟨some 20, .mv (.t 6), none⟩, ⟨some 21, .not (.t 20), none⟩])
 (.cond (.t 21)
 (.seq (.region [⟨some 22, .call 38 [], none⟩, ⟨some 23, .mv (.t 22), none⟩, ⟨some 24, .mv (.t 4), some (23, true)⟩, ⟨some 25, .bin .eql (.t 24) (.k (.int .i64 2)), some (23, true)⟩, ⟨some 26, .pick (.t 23) (.t 25) (.k (.bool false)), none⟩, ⟨some 27, .mv (.t 26), none⟩, ⟨some 28, .load true 3 (.t 3) (some 3), some (27, true)⟩, ⟨some 29, .build [.v (.int .i64 0), .v (.int .i64 0), .v (.int .i64 0)] [], some (27, true)⟩, ⟨some 30, .eqs false [.i64, .i64, .i64] (.t 28) (.t 29), some (27, true)⟩, ⟨some 31, .pick (.t 27) (.t 30) (.k (.bool false)), none⟩, ⟨some 2, .mv (.t 31), none⟩])
 .ret)
 .skip))
 (.seq (.region [⟨some 33, .load true 3 (.t 3) (some 3), none⟩, ⟨some 34, .call 36 [(.t 33)], none⟩, ⟨some 32, .mv (.t 34), none⟩, ⟨some 35, .ext (.t 32) 0, none⟩, ⟨some 36, .ext (.t 32) 1, none⟩, ⟨some 7, .alloc [.v (.int .i64 0), .v (.int .u64 0)], none⟩, ⟨none, .store 2 (.t 7) (.t 35) 7, none⟩, ⟨some 8, .mv (.t 36), none⟩])
 (.seq (.region [⟨some 37, .call 38 [], none⟩, ⟨some 38, .mv (.t 37), none⟩, ⟨some 39, .mv (.t 4), some (38, true)⟩, ⟨some 40, .bin .eql (.t 39) (.k (.int .i64 0)), some (38, true)⟩, ⟨some 41, .pick (.t 38) (.t 40) (.k (.bool false)), none⟩, ⟨some 42, .mv (.t 41), none⟩, ⟨some 43, .load true 3 (.t 3) (some 3), some (42, true)⟩, ⟨some 44, .load true 3 (.t 5) (some 5), some (42, true)⟩, ⟨some 45, .eqs false [.i64, .i64, .i64] (.t 43) (.t 44), some (42, true)⟩, ⟨some 46, .pick (.t 42) (.t 45) (.k (.bool false)), none⟩, ⟨some 47, .mv (.t 46), none⟩, ⟨some 48, .mv (.t 8), some (47, true)⟩, ⟨some 49, .bin .eql (.t 48) (.k (.int .i64 0)), some (47, true)⟩, ⟨some 50, .pick (.t 47) (.t 49) (.k (.bool false)), none⟩, ⟨some 51, .mv (.t 50), none⟩, ⟨some 52, .load true 2 (.t 7) (some 7), some (51, true)⟩, ⟨some 53, .load true 2 (.t 1) (some 1), some (51, true)⟩, ⟨some 54, .eqs false [.i64, .u64] (.t 52) (.t 53), some (51, true)⟩, ⟨some 55, .pick (.t 51) (.t 54) (.k (.bool false)), none⟩, ⟨some 2, .mv (.t 55), none⟩])
 .ret))))))⟩
theorem epactlaw07_DaySplits.chk : chkFn Try.prog Try.f7 epactlaw07_DaySplits.c = true := by kernel_rfl
theorem epactlaw07_DaySplits.ent : ∀ args w, (callFunc 7 args).run Try.prog w = .ok (.enter 7 args) w := enters Try.func7 (by kernel_rfl) (by kernel_rfl)

/-- epact/epactlaw03.RatioAdds -/
def epactlaw03_RatioAdds.c : SF := ⟨123, [.t 4],
 (.seq (.region [⟨some 2, .box (.t 0), none⟩, ⟨some 3, .box (.t 1), none⟩, ⟨some 4, .mv (.k (.bool false)), none⟩])
 (.seq (.seq (.region [⟨some 17, .load true 4 (.t 2) (some 2), none⟩, ⟨some 18, .call 28 [(.t 17)], none⟩, ⟨some 19, .not (.t 18), none⟩, ⟨some 20, .mv (.t 19), none⟩, ⟨some 21, .load true 4 (.t 3) (some 3), some (20, false)⟩, ⟨some 22, .call 28 [(.t 21)], some (20, false)⟩, ⟨some 23, .not (.t 22), some (20, false)⟩, ⟨some 24, .pick (.t 20) (.k (.bool true)) (.t 23), none⟩])
 (.cond (.t 24)
 (.seq (.region [⟨some 25, .call 26 [], none⟩, ⟨some 4, .mv (.t 25), none⟩])
 .ret)
 .skip))
 (.seq (.region [⟨some 26, .fld 0 (.t 2), none⟩, ⟨some 27, .load true 2 (.t 26) (some 2), none⟩, ⟨some 28, .call 24 [(.t 27)], none⟩, ⟨some 29, .fld 0 (.t 3), none⟩, ⟨some 30, .load true 2 (.t 29) (some 3), none⟩, ⟨some 31, .call 24 [(.t 30)], none⟩, ⟨some 32, .fld 2 (.t 2), none⟩, ⟨some 33, .load true 2 (.t 32) (some 2), none⟩, ⟨some 34, .call 24 [(.t 33)], none⟩, ⟨some 35, .fld 2 (.t 3), none⟩, ⟨some 36, .load true 2 (.t 35) (some 3), none⟩, ⟨some 37, .call 24 [(.t 36)], none⟩, ⟨some 5, .alloc [.v (.bool false), .nil .i64], none⟩, ⟨some 6, .alloc [.v (.bool false), .nil .i64], none⟩, ⟨some 7, .alloc [.v (.bool false), .nil .i64], none⟩, ⟨some 8, .alloc [.v (.bool false), .nil .i64], none⟩, ⟨none, .store 2 (.t 5) (.t 28) 5, none⟩, ⟨none, .store 2 (.t 6) (.t 31) 6, none⟩, ⟨none, .store 2 (.t 7) (.t 34) 7, none⟩, ⟨none, .store 2 (.t 8) (.t 37) 8, none⟩])
 (.seq (.region [⟨some 38, .load true 2 (.t 5) (some 5), none⟩, ⟨some 39, .load true 2 (.t 8) (some 8), none⟩, ⟨some 40, .call 34 [(.t 38), (.t 39)], none⟩, ⟨some 41, .load true 2 (.t 6) (some 6), none⟩, ⟨some 42, .load true 2 (.t 7) (some 7), none⟩, ⟨some 43, .call 34 [(.t 41), (.t 42)], none⟩, ⟨some 44, .load true 2 (.t 7) (some 7), none⟩, ⟨some 45, .load true 2 (.t 8) (some 8), none⟩, ⟨some 46, .call 34 [(.t 44), (.t 45)], none⟩, ⟨some 9, .alloc [.v (.bool false), .nil .i64], none⟩, ⟨some 10, .alloc [.v (.bool false), .nil .i64], none⟩, ⟨some 11, .alloc [.v (.bool false), .nil .i64], none⟩, ⟨none, .store 2 (.t 9) (.t 40) 9, none⟩, ⟨none, .store 2 (.t 10) (.t 43) 10, none⟩, ⟨none, .store 2 (.t 11) (.t 46) 11, none⟩])
 (.seq (.region [⟨some 48, .load true 4 (.t 2) (some 2), none⟩, ⟨some 49, .load true 4 (.t 3) (some 3), none⟩, ⟨some 50, .call 42 [(.t 48), (.t 49)], none⟩, ⟨some 47, .mv (.t 50), none⟩, ⟨some 51, .ext (.t 47) 0, none⟩, ⟨some 52, .ext (.t 47) 1, none⟩, ⟨some 12, .alloc [.v (.int .i64 0), .v (.int .u64 0), .v (.int .i64 0), .v (.int .u64 0)], none⟩, ⟨none, .store 4 (.t 12) (.t 51) 12, none⟩, ⟨some 13, .mv (.t 52), none⟩])
 (.seq (.region [⟨some 54, .load true 4 (.t 2) (some 2), none⟩, ⟨some 55, .load true 4 (.t 3) (some 3), none⟩, ⟨some 56, .call 43 [(.t 54), (.t 55)], none⟩, ⟨some 53, .mv (.t 56), none⟩, ⟨some 57, .ext (.t 53) 0, none⟩, ⟨some 58, .ext (.t 53) 1, none⟩, ⟨some 14, .alloc [.v (.int .i64 0), .v (.int .u64 0), .v (.int .i64 0), .v (.int .u64 0)], none⟩, ⟨none, .store 4 (.t 14) (.t 57) 14, none⟩, ⟨some 15, .mv (.t 58), none⟩])
 (.seq (.region [⟨some 59, .load true 2 (.t 9) (some 9), none⟩, ⟨some 60, .load true 2 (.t 10) (some 10), none⟩, ⟨some 61, .call 31 [(.t 59), (.t 60)], none⟩, ⟨some 16, .alloc [.v (.bool false), .nil .i64], none⟩, ⟨none, .store 2 (.t 16) (.t 61) 16, none⟩])
 (.seq (.seq (.region [⟨some 62, .load true 2 (.t 9) (some 9), none⟩, ⟨some 63, .load true 2 (.t 10) (some 10), none⟩, ⟨some 64, .load true 2 (.t 11) (some 11), none⟩, ⟨some 65, .load true 2 (.t 16) (some 16), none⟩, ⟨some 66, .bldQ ⟨33, 2, none⟩ [.v (.bool false), .nil .i64, .v (.bool false), .nil .i64, .v (.bool false), .nil .i64, .v (.bool false), .nil .i64] 4 [(0, 2, (.t 62)), (2, 2, (.t 63)), (4, 2, (.t 64)), (6, 2, (.t 65))], none⟩, ⟨some 67, .call 44 [(.t 66)], none⟩, ⟨some 68, .mv (.t 13), none⟩, ⟨some 69, .bin .eql (.t 68) (.k (.int .i64 0)), none⟩, ⟨some 70, .eqb true (.t 67) (.t 69), none⟩, ⟨some 71, .mv (.t 70), none⟩, ⟨some 72, .load true 2 (.t 5) (some 5), some (71, false)⟩, ⟨some 73, .load true 2 (.t 6) (some 6), some (71, false)⟩, ⟨some 74, .call 34 [(.t 72), (.t 73)], some (71, false)⟩, ⟨some 75, .load true 2 (.t 11) (some 11), some (71, false)⟩, ⟨some 76, .bldQ ⟨33, 2, none⟩ [.v (.bool false), .nil .i64, .v (.bool false), .nil .i64] 2 [(0, 2, (.t 74)), (2, 2, (.t 75))], some (71, false)⟩, ⟨some 77, .call 44 [(.t 76)], some (71, false)⟩, ⟨some 78, .mv (.t 15), some (71, false)⟩, ⟨some 79, .bin .eql (.t 78) (.k (.int .i64 0)), some (71, false)⟩, ⟨some 80, .eqb true (.t 77) (.t 79), some (71, false)⟩, ⟨some 81, .pick (.t 71) (.k (.bool true)) (.t 80), none⟩])
 (.cond (.t 81)
 (.seq (.region [⟨some 4, .mv (.k (.bool false)), none⟩])
 .ret)
 .skip))
 (.seq (.region [⟨some 82, .call 26 [], none⟩, ⟨some 83, .mv (.t 82), none⟩, ⟨some 84, .mv (.t 13), some (83, true)⟩, ⟨some 85, .bin .eql (.t 84) (.k (.int .i64 2)), some (83, true)⟩, ⟨some 86, .mv (.t 85), some (83, true)⟩, ⟨some 87, .load true 4 (.t 12) (some 12), some (86, true)⟩, ⟨some 88, .build [.v (.int .i64 0), .v (.int .u64 0), .v (.int .i64 0), .v (.int .u64 0)] [], some (86, true)⟩, ⟨some 89, .eqs false [.i64, .u64, .i64, .u64] (.t 87) (.t 88), some (86, true)⟩, ⟨some 90, .pick (.t 86) (.t 89) (.k (.bool false)), some (83, true)⟩, ⟨some 91, .mv (.t 90), some (83, true)⟩, ⟨some 92, .mv (.t 13), some (91, false)⟩, ⟨some 93, .bin .eql (.t 92) (.k (.int .i64 0)), some (91, false)⟩, ⟨some 94, .mv (.t 93), some (91, false)⟩, ⟨some 95, .load true 4 (.t 12) (some 12), some (94, true)⟩, ⟨some 96, .load true 2 (.t 16) (some 16), some (94, true)⟩, ⟨some 97, .load true 2 (.t 11) (some 11), some (94, true)⟩, ⟨some 98, .call 27 [(.t 95), (.t 96), (.t 97)], some (94, true)⟩, ⟨some 99, .pick (.t 94) (.t 98) (.k (.bool false)), some (91, false)⟩, ⟨some 100, .pick (.t 91) (.k (.bool true)) (.t 99), some (83, true)⟩, ⟨some 101, .pick (.t 83) (.t 100) (.k (.bool false)), none⟩, ⟨some 102, .mv (.t 101), none⟩, ⟨some 103, .mv (.t 15), some (102, true)⟩, ⟨some 104, .bin .eql (.t 103) (.k (.int .i64 2)), some (102, true)⟩, ⟨some 105, .mv (.t 104), some (102, true)⟩, ⟨some 106, .load true 4 (.t 14) (some 14), some (105, true)⟩, ⟨some 107, .build [.v (.int .i64 0), .v (.int .u64 0), .v (.int .i64 0), .v (.int .u64 0)] [], some (105, true)⟩, ⟨some 108, .eqs false [.i64, .u64, .i64, .u64] (.t 106) (.t 107), some (105, true)⟩, ⟨some 109, .pick (.t 105) (.t 108) (.k (.bool false)), some (102, true)⟩, ⟨some 110, .mv (.t 109), some (102, true)⟩, ⟨some 111, .mv (.t 15), some (110, false)⟩, ⟨some 112, .bin .eql (.t 111) (.k (.int .i64 0)), some (110, false)⟩, ⟨some 113, .mv (.t 112), some (110, false)⟩, ⟨some 114, .load true 4 (.t 14) (some 14), some (113, true)⟩, ⟨some 115, .load true 2 (.t 5) (some 5), some (113, true)⟩, ⟨some 116, .load true 2 (.t 6) (some 6), some (113, true)⟩, ⟨some 117, .call 34 [(.t 115), (.t 116)], some (113, true)⟩, ⟨some 118, .load true 2 (.t 11) (some 11), some (113, true)⟩, ⟨some 119, .call 27 [(.t 114), (.t 117), (.t 118)], some (113, true)⟩, ⟨some 120, .pick (.t 113) (.t 119) (.k (.bool false)), some (110, false)⟩, ⟨some 121, .pick (.t 110) (.k (.bool true)) (.t 120), some (102, true)⟩, ⟨some 122, .pick (.t 102) (.t 121) (.k (.bool false)), none⟩, ⟨some 4, .mv (.t 122), none⟩])
 .ret)))))))))⟩
theorem epactlaw03_RatioAdds.chk : chkFn Try.prog Try.f8 epactlaw03_RatioAdds.c = true := by kernel_rfl
theorem epactlaw03_RatioAdds.ent : ∀ args w, (callFunc 8 args).run Try.prog w = .ok (.enter 8 args) w := enters Try.func8 (by kernel_rfl) (by kernel_rfl)

/-- epact/epactlaw07.DayJulian -/
def epactlaw07_DayJulian.c : SF := ⟨55, [.t 2],
 (.seq (.region [⟨some 1, .box (.t 0), none⟩, ⟨some 2, .mv (.k (.bool false)), none⟩])
 (.seq (.region [⟨some 9, .load true 3 (.t 1) (some 1), none⟩, ⟨some 10, .call 45 [(.t 9)], none⟩, ⟨some 8, .mv (.t 10), none⟩, ⟨some 11, .ext (.t 8) 0, none⟩, ⟨some 12, .ext (.t 8) 1, none⟩, ⟨some 3, .alloc [.v (.int .i64 0), .v (.int .i64 0), .v (.int .i64 0)], none⟩, ⟨none, .store 3 (.t 3) (.t 11) 3, none⟩, ⟨some 4, .mv (.t 12), none⟩])
 (.seq (.seq (.region [⟨some 13, .mv (.t 4), none⟩, ⟨some 14, .load true 3 (.t 1) (some 1), none⟩, ⟨some 15, .call 37 [(.t 14)], none⟩, ⟨some 16, .bin .neq (.t 13) (.t 15), none⟩])
 (.cond (.t 16)
 (.seq (.region [⟨some 2, .mv (.k (.bool false)), none⟩])
 .ret)
 .skip))
 (.seq (.seq (.region [⟨some 17, .mv (.t 4), none⟩, ⟨some 18, .bin .neq (.t 17) (.k (.int .i64 0)), none⟩])
 (.cond (.t 18)
 (.seq (.region [⟨some 19, .call 38 [], none⟩, ⟨some 20, .mv (.t 19), none⟩, ⟨some 21, .load true 3 (.t 3) (some 3), some (20, true)⟩, ⟨some 22, .build [.v (.int .i64 0), .v (.int .i64 0), .v (.int .i64 0)] [], some (20, true)⟩, ⟨some 23, .eqs false [.i64, .i64, .i64] (.t 21) (.t 22), some (20, true)⟩, ⟨some 24, .pick (.t 20) (.t 23) (.k (.bool false)), none⟩, ⟨some 2, .mv (.t 24), none⟩])
 .ret)
 .skip))
 (.seq (.region [⟨some 26, .load true 3 (.t 3) (some 3), none⟩, ⟨some 27, .call 46 [(.t 26)], none⟩, ⟨some 25, .mv (.t 27), none⟩, ⟨some 28, .ext (.t 25) 0, none⟩, ⟨some 29, .ext (.t 25) 1, none⟩, ⟨some 5, .alloc [.v (.int .i64 0), .v (.int .i64 0), .v (.int .i64 0)], none⟩, ⟨none, .store 3 (.t 5) (.t 28) 5, none⟩, ⟨some 6, .mv (.t 29), none⟩])
 (.seq (.region [⟨some 30, .load true 3 (.t 3) (some 3), none⟩, ⟨some 31, .call 40 [(.t 30)], none⟩, ⟨some 32, .load true 3 (.t 1) (some 1), none⟩, ⟨some 33, .call 40 [(.t 32)], none⟩, ⟨some 34, .call 47 [(.t 31), (.t 33)], none⟩, ⟨some 7, .alloc [.v (.bool false), .nil .i64], none⟩, ⟨none, .store 2 (.t 7) (.t 34) 7, none⟩])
 (.seq (.region [⟨some 35, .call 38 [], none⟩, ⟨some 36, .mv (.t 35), none⟩, ⟨some 37, .load true 3 (.t 3) (some 3), some (36, true)⟩, ⟨some 38, .call 48 [(.t 37)], some (36, true)⟩, ⟨some 39, .pick (.t 36) (.t 38) (.k (.bool false)), none⟩, ⟨some 40, .mv (.t 39), none⟩, ⟨some 41, .load true 2 (.t 7) (some 7), some (40, true)⟩, ⟨some 42, .build [.v (.int .i64 0), .v (.int .i64 0), .v (.int .i64 0)] [(0, 1, (.k (.int .i64 2400000))), (1, 1, (.k (.int .i64 43200)))], some (40, true)⟩, ⟨some 43, .call 40 [(.t 42)], some (40, true)⟩, ⟨some 44, .call 30 [(.t 41), (.t 43)], some (40, true)⟩, ⟨some 45, .pick (.t 40) (.t 44) (.k (.bool false)), none⟩, ⟨some 46, .mv (.t 45), none⟩, ⟨some 47, .mv (.t 6), some (46, true)⟩, ⟨some 48, .bin .eql (.t 47) (.k (.int .i64 0)), some (46, true)⟩, ⟨some 49, .pick (.t 46) (.t 48) (.k (.bool false)), none⟩, ⟨some 50, .mv (.t 49), none⟩, ⟨some 51, .load true 3 (.t 5) (some 5), some (50, true)⟩, ⟨some 52, .load true 3 (.t 1) (some 1), some (50, true)⟩, ⟨some 53, .eqs false [.i64, .i64, .i64] (.t 51) (.t 52), some (50, true)⟩, ⟨some 54, .pick (.t 50) (.t 53) (.k (.bool false)), none⟩, ⟨some 2, .mv (.t 54), none⟩])
 .ret)))))))⟩
theorem epactlaw07_DayJulian.chk : chkFn Try.prog Try.f9 epactlaw07_DayJulian.c = true := by kernel_rfl
theorem epactlaw07_DayJulian.ent : ∀ args w, (callFunc 9 args).run Try.prog w = .ok (.enter 9 args) w := enters Try.func9 (by kernel_rfl) (by kernel_rfl)

/-- epact/epactlaw07.DayCivil -/
def epactlaw07_DayCivil.c : SF := ⟨56, [.t 2],
 (.seq (.region [⟨some 1, .box (.t 0), none⟩, ⟨some 2, .mv (.k (.bool false)), none⟩])
 (.seq (.region [⟨some 8, .load true 3 (.t 1) (some 1), none⟩, ⟨some 9, .call 46 [(.t 8)], none⟩, ⟨some 7, .mv (.t 9), none⟩, ⟨some 10, .ext (.t 7) 0, none⟩, ⟨some 11, .ext (.t 7) 1, none⟩, ⟨some 3, .alloc [.v (.int .i64 0), .v (.int .i64 0), .v (.int .i64 0)], none⟩, ⟨none, .store 3 (.t 3) (.t 10) 3, none⟩, ⟨some 4, .mv (.t 11), none⟩])
 (.seq (.seq (.region [⟨some 12, .load true 3 (.t 1) (some 1), none⟩, ⟨some 13, .call 48 [(.t 12)], none⟩, ⟨some 14, .not (.t 13), none⟩])
 (.cond (.t 14)
 (.seq (.region [⟨some 15, .call 38 [], none⟩, ⟨some 16, .mv (.t 15), none⟩, ⟨some 17, .mv (.t 4), some (16, true)⟩, ⟨some 18, .bin .eql (.t 17) (.k (.int .i64 1)), some (16, true)⟩, ⟨some 19, .pick (.t 16) (.t 18) (.k (.bool false)), none⟩, ⟨some 20, .mv (.t 19), none⟩, ⟨some 21, .load true 3 (.t 3) (some 3), some (20, true)⟩, ⟨some 22, .build [.v (.int .i64 0), .v (.int .i64 0), .v (.int .i64 0)] [], some (20, true)⟩, ⟨some 23, .eqs false [.i64, .i64, .i64] (.t 21) (.t 22), some (20, true)⟩, ⟨some 24, .pick (.t 20) (.t 23) (.k (.bool false)), none⟩, ⟨some 2, .mv (.t 24), none⟩])
 .ret)
 .skip))
 (.seq (.region [⟨some 26, .load true 3 (.t 1) (some 1), none⟩, ⟨some 27, .call 40 [(.t 26)], none⟩, ⟨some 28, .build [.v (.int .i64 0), .v (.int .i64 0), .v (.int .i64 0)] [(0, 1, (.k (.int .i64 2400000))), (1, 1, (.k (.int .i64 43200)))], none⟩, ⟨some 29, .call 40 [(.t 28)], none⟩, ⟨some 30, .call 47 [(.t 27), (.t 29)], none⟩, ⟨some 31, .call 41 [(.t 30)], none⟩, ⟨some 25, .mv (.t 31), none⟩, ⟨some 32, .ext (.t 25) 0, none⟩, ⟨some 33, .ext (.t 25) 1, none⟩, ⟨some 5, .alloc [.v (.int .i64 0), .v (.int .i64 0), .v (.int .i64 0)], none⟩, ⟨none, .store 3 (.t 5) (.t 32) 5, none⟩, ⟨some 6, .mv (.t 33), none⟩])
 (.seq (.seq (.region [⟨some 34, .mv (.t 6), none⟩, ⟨some 35, .not (.t 34), none⟩])
 (.cond (.t 35)
 (.seq (.region [⟨some 36, .call 38 [], none⟩, ⟨some 37, .mv (.t 36), none⟩, ⟨some 38, .mv (.t 4), some (37, true)⟩, ⟨some 39, .bin .eql (.t 38) (.k (.int .i64 2)), some (37, true)⟩, ⟨some 40, .pick (.t 37) (.t 39) (.k (.bool false)), none⟩, ⟨some 41, .mv (.t 40), none⟩, ⟨some 42, .load true 3 (.t 3) (some 3), some (41, true)⟩, ⟨some 43, .build [.v (.int .i64 0), .v (.int .i64 0), .v (.int .i64 0)] [], some (41, true)⟩, ⟨some 44, .eqs false [.i64, .i64, .i64] (.t 42) (.t 43), some (41, true)⟩, ⟨some 45, .pick (.t 41) (.t 44) (.k (.bool false)), none⟩, ⟨some 2, .mv (.t 45), none⟩])
 .ret)
 .skip))
 (.seq (.region [⟨some 46, .call 38 [], none⟩, ⟨some 47, .mv (.t 46), none⟩, ⟨some 48, .mv (.t 4), some (47, true)⟩, ⟨some 49, .bin .eql (.t 48) (.k (.int .i64 0)), some (47, true)⟩, ⟨some 50, .pick (.t 47) (.t 49) (.k (.bool false)), none⟩, ⟨some 51, .mv (.t 50), none⟩, ⟨some 52, .load true 3 (.t 3) (some 3), some (51, true)⟩, ⟨some 53, .load true 3 (.t 5) (some 5), some (51, true)⟩, ⟨some 54, .eqs false [.i64, .i64, .i64] (.t 52) (.t 53), some (51, true)⟩, ⟨some 55, .pick (.t 51) (.t 54) (.k (.bool false)), none⟩, ⟨some 2, .mv (.t 55), none⟩])
 .ret))))))⟩
theorem epactlaw07_DayCivil.chk : chkFn Try.prog Try.f10 epactlaw07_DayCivil.c = true := by kernel_rfl
theorem epactlaw07_DayCivil.ent : ∀ args w, (callFunc 10 args).run Try.prog w = .ok (.enter 10 args) w := enters Try.func10 (by kernel_rfl) (by kernel_rfl)

/-- epact/epactlaw19.FracEncodes -/
def epactlaw19_FracEncodes.c : SF := ⟨50, [.t 4],
 (.seq (.region [⟨some 4, .mv (.k (.bool false)), none⟩])
 (.seq (.region [⟨some 8, .mv (.t 0), none⟩, ⟨some 9, .mv (.t 1), none⟩, ⟨some 10, .call 49 [(.t 8), (.t 9)], none⟩, ⟨some 7, .mv (.t 10), none⟩, ⟨some 11, .ext (.t 7) 0, none⟩, ⟨some 12, .ext (.t 7) 1, none⟩, ⟨some 5, .alloc [.v (.int .i64 0), .v (.int .u64 0)], none⟩, ⟨none, .store 2 (.t 5) (.t 11) 5, none⟩, ⟨some 6, .mv (.t 12), none⟩])
 (.seq (.seq (.region [⟨some 13, .mv (.t 0), none⟩, ⟨some 14, .bin .lss (.t 13) (.k (.int .i64 0)), none⟩, ⟨some 15, .mv (.t 14), none⟩, ⟨some 16, .mv (.t 0), some (15, false)⟩, ⟨some 17, .bin .geq (.t 16) (.k (.int .i64 1000000000000000000)), some (15, false)⟩, ⟨some 18, .pick (.t 15) (.k (.bool true)) (.t 17), none⟩, ⟨some 19, .mv (.t 18), none⟩, ⟨some 20, .mv (.t 1), some (19, false)⟩, ⟨some 21, .bin .lss (.t 20) (.k (.int .i64 0)), some (19, false)⟩, ⟨some 22, .pick (.t 19) (.k (.bool true)) (.t 21), none⟩, ⟨some 23, .mv (.t 22), none⟩, ⟨some 24, .mv (.t 1), some (23, false)⟩, ⟨some 25, .bin .gtr (.t 24) (.k (.int .i64 10)), some (23, false)⟩, ⟨some 26, .pick (.t 23) (.k (.bool true)) (.t 25), none⟩])
 (.cond (.t 26)
 (.seq (.region [⟨some 27, .call 50 [], none⟩, ⟨some 28, .mv (.t 27), none⟩, ⟨some 29, .mv (.t 6), some (28, true)⟩, ⟨some 30, .bin .eql (.t 29) (.k (.int .i64 1)), some (28, true)⟩, ⟨some 31, .pick (.t 28) (.t 30) (.k (.bool false)), none⟩, ⟨some 32, .mv (.t 31), none⟩, ⟨some 33, .load true 2 (.t 5) (some 5), some (32, true)⟩, ⟨some 34, .build [.v (.int .i64 0), .v (.int .u64 0)] [], some (32, true)⟩, ⟨some 35, .eqs false [.i64, .u64] (.t 33) (.t 34), some (32, true)⟩, ⟨some 36, .pick (.t 32) (.t 35) (.k (.bool false)), none⟩, ⟨some 4, .mv (.t 36), none⟩])
 .ret)
 .skip))
 (.seq (.region [⟨some 37, .call 50 [], none⟩, ⟨some 38, .mv (.t 37), none⟩, ⟨some 39, .mv (.t 6), some (38, true)⟩, ⟨some 40, .bin .eql (.t 39) (.k (.int .i64 0)), some (38, true)⟩, ⟨some 41, .pick (.t 38) (.t 40) (.k (.bool false)), none⟩, ⟨some 42, .mv (.t 41), none⟩, ⟨some 43, .load true 2 (.t 5) (some 5), some (42, true)⟩, ⟨some 44, .call 24 [(.t 43)], some (42, true)⟩, ⟨some 45, .mv (.t 0), some (42, true)⟩, ⟨some 46, .mv (.t 1), some (42, true)⟩, ⟨some 47, .call 51 [(.t 45), (.t 46)], some (42, true)⟩, ⟨some 48, .call 30 [(.t 44), (.t 47)], some (42, true)⟩, ⟨some 49, .pick (.t 42) (.t 48) (.k (.bool false)), none⟩, ⟨some 4, .mv (.t 49), none⟩])
 .ret))))⟩
theorem epactlaw19_FracEncodes.chk : chkFn Try.prog Try.f11 epactlaw19_FracEncodes.c = true := by kernel_rfl
theorem epactlaw19_FracEncodes.ent : ∀ args w, (callFunc 11 args).run Try.prog w = .ok (.enter 11 args) w := enters Try.func11 (by kernel_rfl) (by kernel_rfl)

/-- epact/epactlaw19.FracDecodes -/
def epactlaw19_FracDecodes.c : SF := ⟨64, [.t 4],
 (.seq (.region [⟨some 2, .box (.t 0), none⟩, ⟨some 4, .mv (.k (.bool false)), none⟩])
 (.seq (.region [⟨some 10, .load true 2 (.t 2) (some 2), none⟩, ⟨some 11, .mv (.t 1), none⟩, ⟨some 12, .call 52 [(.t 10), (.t 11)], none⟩, ⟨some 9, .mv (.t 12), none⟩, ⟨some 13, .ext (.t 9) 0, none⟩, ⟨some 14, .ext (.t 9) 1, none⟩, ⟨some 5, .mv (.t 13), none⟩, ⟨some 6, .mv (.t 14), none⟩])
 (.seq (.seq (.region [⟨some 15, .mv (.t 1), none⟩, ⟨some 16, .bin .lss (.t 15) (.k (.int .i64 0)), none⟩, ⟨some 17, .mv (.t 16), none⟩, ⟨some 18, .mv (.t 1), some (17, false)⟩, ⟨some 19, .bin .gtr (.t 18) (.k (.int .i64 10)), some (17, false)⟩, ⟨some 20, .pick (.t 17) (.k (.bool true)) (.t 19), none⟩, ⟨some 21, .mv (.t 20), none⟩, ⟨some 22, .load true 2 (.t 2) (some 2), some (21, false)⟩, ⟨some 23, .call 24 [(.t 22)], some (21, false)⟩, ⟨some 24, .mv (.t 1), some (21, false)⟩, ⟨some 25, .call 54 [(.t 24)], some (21, false)⟩, ⟨some 26, .call 53 [(.t 23), (.t 25)], some (21, false)⟩, ⟨some 27, .not (.t 26), some (21, false)⟩, ⟨some 28, .pick (.t 21) (.k (.bool true)) (.t 27), none⟩])
 (.cond (.t 28)
 (.seq (.region [⟨some 29, .call 50 [], none⟩, ⟨some 30, .mv (.t 29), none⟩, ⟨some 31, .mv (.t 6), some (30, true)⟩, ⟨some 32, .bin .eql (.t 31) (.k (.int .i64 1)), some (30, true)⟩, ⟨some 33, .pick (.t 30) (.t 32) (.k (.bool false)), none⟩, ⟨some 34, .mv (.t 33), none⟩, ⟨some 35, .mv (.t 5), some (34, true)⟩, ⟨some 36, .bin .eql (.t 35) (.k (.int .i64 0)), some (34, true)⟩, ⟨some 37, .pick (.t 34) (.t 36) (.k (.bool false)), none⟩, ⟨some 4, .mv (.t 37), none⟩])
 .ret)
 .skip))
 (.seq (.region [⟨some 39, .load true 2 (.t 2) (some 2), none⟩, ⟨some 40, .call 24 [(.t 39)], none⟩, ⟨some 41, .mv (.t 1), none⟩, ⟨some 42, .call 55 [(.t 40), (.t 41)], none⟩, ⟨some 38, .mv (.t 42), none⟩, ⟨some 43, .ext (.t 38) 0, none⟩, ⟨some 44, .ext (.t 38) 1, none⟩, ⟨some 7, .mv (.t 43), none⟩, ⟨some 8, .mv (.t 44), none⟩])
 (.seq (.region [⟨some 45, .call 50 [], none⟩, ⟨some 46, .mv (.t 45), none⟩, ⟨some 47, .mv (.t 5), some (46, true)⟩, ⟨some 48, .mv (.t 7), some (46, true)⟩, ⟨some 49, .bin .eql (.t 47) (.t 48), some (46, true)⟩, ⟨some 50, .pick (.t 46) (.t 49) (.k (.bool false)), none⟩, ⟨some 51, .mv (.t 50), none⟩, ⟨some 52, .mv (.t 6), some (51, true)⟩, ⟨some 53, .bin .eql (.t 52) (.k (.int .i64 0)), some (51, true)⟩, ⟨some 54, .mv (.t 8), some (51, true)⟩, ⟨some 55, .eqb false (.t 53) (.t 54), some (51, true)⟩, ⟨some 56, .pick (.t 51) (.t 55) (.k (.bool false)), none⟩, ⟨some 57, .mv (.t 56), none⟩, ⟨some 58, .mv (.t 8), some (57, true)⟩, ⟨some 59, .mv (.t 58), some (57, true)⟩, ⟨some 60, .mv (.t 6), some (59, false)⟩, ⟨some 61, .bin .eql (.t 60) (.k (.int .i64 13)), some (59, false)⟩, ⟨some 62, .pick (.t 59) (.k (.bool true)) (.t 61), some (57, true)⟩, ⟨some 63, .pick (.t 57) (.t 62) (.k (.bool false)), none⟩, ⟨some 4, .mv (.t 63), none⟩])
 .ret)))))⟩
theorem epactlaw19_FracDecodes.chk : chkFn Try.prog Try.f12 epactlaw19_FracDecodes.c = true := by kernel_rfl
theorem epactlaw19_FracDecodes.ent : ∀ args w, (callFunc 12 args).run Try.prog w = .ok (.enter 12 args) w := enters Try.func12 (by kernel_rfl) (by kernel_rfl)

/-- epact/epactlaw19.FracFloors -/
def epactlaw19_FracFloors.c : SF := ⟨81, [.t 6],
 (.seq (.region [⟨some 6, .mv (.k (.bool false)), none⟩])
 (.seq (.region [⟨some 16, .mv (.t 0), none⟩, ⟨some 17, .mv (.t 1), none⟩, ⟨some 18, .call 49 [(.t 16), (.t 17)], none⟩, ⟨some 15, .mv (.t 18), none⟩, ⟨some 19, .ext (.t 15) 0, none⟩, ⟨some 20, .ext (.t 15) 1, none⟩, ⟨some 7, .alloc [.v (.int .i64 0), .v (.int .u64 0)], none⟩, ⟨none, .store 2 (.t 7) (.t 19) 7, none⟩, ⟨some 8, .mv (.t 20), none⟩])
 (.seq (.seq (.region [⟨some 21, .mv (.t 8), none⟩, ⟨some 22, .bin .neq (.t 21) (.k (.int .i64 0)), none⟩])
 (.cond (.t 22)
 (.seq (.region [⟨some 23, .call 50 [], none⟩, ⟨some 6, .mv (.t 23), none⟩])
 .ret)
 .skip))
 (.seq (.region [⟨some 25, .load true 2 (.t 7) (some 7), none⟩, ⟨some 26, .mv (.t 1), none⟩, ⟨some 27, .call 52 [(.t 25), (.t 26)], none⟩, ⟨some 24, .mv (.t 27), none⟩, ⟨some 28, .ext (.t 24) 0, none⟩, ⟨some 29, .ext (.t 24) 1, none⟩, ⟨some 9, .mv (.t 28), none⟩, ⟨some 10, .mv (.t 29), none⟩])
 (.seq (.region [⟨some 31, .mv (.t 9), none⟩, ⟨some 32, .mv (.t 1), none⟩, ⟨some 33, .call 49 [(.t 31), (.t 32)], none⟩, ⟨some 30, .mv (.t 33), none⟩, ⟨some 34, .ext (.t 30) 0, none⟩, ⟨some 35, .ext (.t 30) 1, none⟩, ⟨some 11, .alloc [.v (.int .i64 0), .v (.int .u64 0)], none⟩, ⟨none, .store 2 (.t 11) (.t 34) 11, none⟩, ⟨some 12, .mv (.t 35), none⟩])
 (.seq (.seq (.region [⟨some 36, .mv (.t 10), none⟩, ⟨some 37, .bin .neq (.t 36) (.k (.int .i64 0)), none⟩, ⟨some 38, .mv (.t 37), none⟩, ⟨some 39, .mv (.t 12), some (38, false)⟩, ⟨some 40, .bin .neq (.t 39) (.k (.int .i64 0)), some (38, false)⟩, ⟨some 41, .pick (.t 38) (.k (.bool true)) (.t 40), none⟩, ⟨some 42, .mv (.t 41), none⟩, ⟨some 43, .mv (.t 9), some (42, false)⟩, ⟨some 44, .mv (.t 0), some (42, false)⟩, ⟨some 45, .bin .gtr (.t 43) (.t 44), some (42, false)⟩, ⟨some 46, .pick (.t 42) (.k (.bool true)) (.t 45), none⟩, ⟨some 47, .mv (.t 46), none⟩, ⟨some 48, .load true 2 (.t 11) (some 11), some (47, false)⟩, ⟨some 49, .load true 2 (.t 7) (some 7), some (47, false)⟩, ⟨some 50, .eqs true [.i64, .u64] (.t 48) (.t 49), some (47, false)⟩, ⟨some 51, .pick (.t 47) (.k (.bool true)) (.t 50), none⟩, ⟨some 52, .mv (.t 51), none⟩, ⟨some 53, .mv (.t 1), some (52, false)⟩, ⟨some 54, .bin .geq (.t 53) (.k (.int .i64 8)), some (52, false)⟩, ⟨some 55, .mv (.t 54), some (52, false)⟩, ⟨some 56, .mv (.t 9), some (55, true)⟩, ⟨some 57, .mv (.t 0), some (55, true)⟩, ⟨some 58, .bin .neq (.t 56) (.t 57), some (55, true)⟩, ⟨some 59, .pick (.t 55) (.t 58) (.k (.bool false)), some (52, false)⟩, ⟨some 60, .pick (.t 52) (.k (.bool true)) (.t 59), none⟩])
 (.cond (.t 60)
 (.seq (.region [⟨some 6, .mv (.k (.bool false)), none⟩])
 .ret)
 .skip))
 (.seq (.seq (.region [⟨some 61, .mv (.t 1), none⟩, ⟨some 62, .bin .gtr (.t 61) (.k (.int .i64 7)), none⟩])
 (.cond (.t 62)
 (.seq (.region [⟨some 63, .call 50 [], none⟩, ⟨some 6, .mv (.t 63), none⟩])
 .ret)
 .skip))
 (.seq (.region [⟨some 65, .mv (.t 2), none⟩, ⟨some 66, .mv (.t 1), none⟩, ⟨some 67, .bin .mul (.k (.int .i64 8)) (.t 66), none⟩, ⟨some 68, .bin .sub (.k (.int .i64 64)) (.t 67), none⟩, ⟨some 69, .cvt .u64 (.t 68), none⟩, ⟨some 70, .bin .shr (.t 65) (.t 69), none⟩, ⟨some 71, .build [.v (.int .i64 0), .v (.int .u64 0)] [(1, 1, (.t 70))], none⟩, ⟨some 72, .mv (.t 1), none⟩, ⟨some 73, .call 52 [(.t 71), (.t 72)], none⟩, ⟨some 64, .mv (.t 73), none⟩, ⟨some 74, .ext (.t 64) 0, none⟩, ⟨some 75, .ext (.t 64) 1, none⟩, ⟨some 13, .mv (.t 74), none⟩, ⟨some 14, .mv (.t 75), none⟩])
 (.seq (.region [⟨some 76, .call 50 [], none⟩, ⟨some 77, .mv (.t 76), none⟩, ⟨some 78, .mv (.t 14), some (77, true)⟩, ⟨some 79, .bin .eql (.t 78) (.k (.int .i64 0)), some (77, true)⟩, ⟨some 80, .pick (.t 77) (.t 79) (.k (.bool false)), none⟩, ⟨some 6, .mv (.t 80), none⟩])
 .ret)))))))))⟩
theorem epactlaw19_FracFloors.chk : chkFn Try.prog Try.f13 epactlaw19_FracFloors.c = true := by kernel_rfl
theorem epactlaw19_FracFloors.ent : ∀ args w, (callFunc 13 args).run Try.prog w = .ok (.enter 13 args) w := enters Try.func13 (by kernel_rfl) (by kernel_rfl)

/-- epact/epactlaw19.FracPuts -/
def epactlaw19_FracPuts.c : SF := ⟨74, [.t 4],
 (.seq (.region [⟨some 2, .box (.t 0), none⟩, ⟨some 4, .mv (.k (.bool false)), none⟩])
 (.seq (.region [⟨some 10, .load true 2 (.t 2) (some 2), none⟩, ⟨some 11, .mv (.t 1), none⟩, ⟨some 12, .call 56 [(.t 10), (.t 11)], none⟩, ⟨some 9, .mv (.t 12), none⟩, ⟨some 13, .ext (.t 9) 0, none⟩, ⟨some 14, .ext (.t 9) 1, none⟩, ⟨some 5, .mv (.t 13), none⟩, ⟨some 6, .mv (.t 14), none⟩])
 (.seq (.seq (.region [⟨some 15, .mv (.t 1), none⟩, ⟨some 16, .bin .lss (.t 15) (.k (.int .i64 0)), none⟩, ⟨some 17, .mv (.t 16), none⟩, ⟨some 18, .mv (.t 1), some (17, false)⟩, ⟨some 19, .bin .gtr (.t 18) (.k (.int .i64 15)), some (17, false)⟩, ⟨some 20, .pick (.t 17) (.k (.bool true)) (.t 19), none⟩])
 (.cond (.t 20)
 (.seq (.region [⟨some 21, .call 50 [], none⟩, ⟨some 22, .mv (.t 21), none⟩, ⟨some 23, .mv (.t 6), some (22, true)⟩, ⟨some 24, .bin .eql (.t 23) (.k (.int .i64 1)), some (22, true)⟩, ⟨some 25, .pick (.t 22) (.t 24) (.k (.bool false)), none⟩, ⟨some 26, .mv (.t 25), none⟩, ⟨some 27, .mv (.t 5), some (26, true)⟩, ⟨some 28, .len (.t 27), some (26, true)⟩, ⟨some 29, .bin .eql (.t 28) (.k (.int .i64 0)), some (26, true)⟩, ⟨some 30, .pick (.t 26) (.t 29) (.k (.bool false)), none⟩, ⟨some 4, .mv (.t 30), none⟩])
 .ret)
 .skip))
 (.seq (.seq (.region [⟨some 31, .load true 2 (.t 2) (some 2), none⟩, ⟨some 32, .call 24 [(.t 31)], none⟩, ⟨some 33, .mv (.t 1), none⟩, ⟨some 34, .call 54 [(.t 33)], none⟩, ⟨some 35, .call 53 [(.t 32), (.t 34)], none⟩, ⟨some 36, .not (.t 35), none⟩])
 (.cond (.t 36)
 (.seq (.region [⟨some 37, .call 50 [], none⟩, ⟨some 38, .mv (.t 37), none⟩, ⟨some 39, .mv (.t 6), some (38, true)⟩, ⟨some 40, .bin .eql (.t 39) (.k (.int .i64 2)), some (38, true)⟩, ⟨some 41, .pick (.t 38) (.t 40) (.k (.bool false)), none⟩, ⟨some 42, .mv (.t 41), none⟩, ⟨some 43, .mv (.t 5), some (42, true)⟩, ⟨some 44, .len (.t 43), some (42, true)⟩, ⟨some 45, .bin .eql (.t 44) (.k (.int .i64 0)), some (42, true)⟩, ⟨some 46, .pick (.t 42) (.t 45) (.k (.bool false)), none⟩, ⟨some 4, .mv (.t 46), none⟩])
 .ret)
 .skip))
 (.seq (.region [⟨some 48, .mv (.t 5), none⟩, ⟨some 49, .call 57 [(.t 48)], none⟩, ⟨some 47, .mv (.t 49), none⟩, ⟨some 50, .ext (.t 47) 0, none⟩, ⟨some 51, .ext (.t 47) 1, none⟩, ⟨some 7, .alloc [.v (.int .i64 0), .v (.int .u64 0)], none⟩, ⟨none, .store 2 (.t 7) (.t 50) 7, none⟩, ⟨some 8, .mv (.t 51), none⟩])
 (.seq (.region [⟨some 52, .call 50 [], none⟩, ⟨some 53, .mv (.t 52), none⟩, ⟨some 54, .mv (.t 6), some (53, true)⟩, ⟨some 55, .bin .eql (.t 54) (.k (.int .i64 0)), some (53, true)⟩, ⟨some 56, .pick (.t 53) (.t 55) (.k (.bool false)), none⟩, ⟨some 57, .mv (.t 56), none⟩, ⟨some 58, .mv (.t 5), some (57, true)⟩, ⟨some 59, .load true 2 (.t 2) (some 2), some (57, true)⟩, ⟨some 60, .call 24 [(.t 59)], some (57, true)⟩, ⟨some 61, .mv (.t 1), some (57, true)⟩, ⟨some 62, .call 59 [(.t 60), (.t 61)], some (57, true)⟩, ⟨some 63, .call 58 [(.t 58), (.t 62)], some (57, true)⟩, ⟨some 64, .pick (.t 57) (.t 63) (.k (.bool false)), none⟩, ⟨some 65, .mv (.t 64), none⟩, ⟨some 66, .mv (.t 8), some (65, true)⟩, ⟨some 67, .bin .eql (.t 66) (.k (.int .i64 0)), some (65, true)⟩, ⟨some 68, .pick (.t 65) (.t 67) (.k (.bool false)), none⟩, ⟨some 69, .mv (.t 68), none⟩, ⟨some 70, .load true 2 (.t 7) (some 7), some (69, true)⟩, ⟨some 71, .load true 2 (.t 2) (some 2), some (69, true)⟩, ⟨some 72, .eqs false [.i64, .u64] (.t 70) (.t 71), some (69, true)⟩, ⟨some 73, .pick (.t 69) (.t 72) (.k (.bool false)), none⟩, ⟨some 4, .mv (.t 73), none⟩])
 .ret))))))⟩
theorem epactlaw19_FracPuts.chk : chkFn Try.prog Try.f14 epactlaw19_FracPuts.c = true := by kernel_rfl
theorem epactlaw19_FracPuts.ent : ∀ args w, (callFunc 14 args).run Try.prog w = .ok (.enter 14 args) w := enters Try.func14 (by kernel_rfl) (by kernel_rfl)

/-- epact/epactlaw19.FracGets -/
def epactlaw19_FracGets.c : SF := ⟨53, [.t 2],
 (.seq (.region [⟨some 2, .mv (.k (.bool false)), none⟩])
 (.seq (.region [⟨some 8, .mv (.t 0), none⟩, ⟨some 9, .call 57 [(.t 8)], none⟩, ⟨some 7, .mv (.t 9), none⟩, ⟨some 10, .ext (.t 7) 0, none⟩, ⟨some 11, .ext (.t 7) 1, none⟩, ⟨some 3, .alloc [.v (.int .i64 0), .v (.int .u64 0)], none⟩, ⟨none, .store 2 (.t 3) (.t 10) 3, none⟩, ⟨some 4, .mv (.t 11), none⟩])
 (.seq (.seq (.region [⟨some 12, .mv (.t 0), none⟩, ⟨some 13, .len (.t 12), none⟩, ⟨some 14, .bin .gtr (.t 13) (.k (.int .i64 15)), none⟩])
 (.cond (.t 14)
 (.seq (.region [⟨some 15, .call 50 [], none⟩, ⟨some 16, .mv (.t 15), none⟩, ⟨some 17, .mv (.t 4), some (16, true)⟩, ⟨some 18, .bin .eql (.t 17) (.k (.int .i64 1)), some (16, true)⟩, ⟨some 19, .pick (.t 16) (.t 18) (.k (.bool false)), none⟩, ⟨some 20, .mv (.t 19), none⟩, ⟨some 21, .load true 2 (.t 3) (some 3), some (20, true)⟩, ⟨some 22, .build [.v (.int .i64 0), .v (.int .u64 0)] [], some (20, true)⟩, ⟨some 23, .eqs false [.i64, .u64] (.t 21) (.t 22), some (20, true)⟩, ⟨some 24, .pick (.t 20) (.t 23) (.k (.bool false)), none⟩, ⟨some 2, .mv (.t 24), none⟩])
 .ret)
 .skip))
 (.seq (.region [⟨some 26, .load true 2 (.t 3) (some 3), none⟩, ⟨some 27, .mv (.t 0), none⟩, ⟨some 28, .len (.t 27), none⟩, ⟨some 29, .call 56 [(.t 26), (.t 28)], none⟩, ⟨some 25, .mv (.t 29), none⟩, ⟨some 30, .ext (.t 25) 0, none⟩, ⟨some 31, .ext (.t 25) 1, none⟩, ⟨some 5, .mv (.t 30), none⟩, ⟨some 6, .mv (.t 31), none⟩])
 (.seq (.region [⟨some 32, .call 50 [], none⟩, ⟨some 33, .mv (.t 32), none⟩, ⟨some 34, .mv (.t 4), some (33, true)⟩, ⟨some 35, .bin .eql (.t 34) (.k (.int .i64 0)), some (33, true)⟩, ⟨some 36, .pick (.t 33) (.t 35) (.k (.bool false)), none⟩, ⟨some 37, .mv (.t 36), none⟩, ⟨some 38, .load true 2 (.t 3) (some 3), some (37, true)⟩, ⟨some 39, .call 24 [(.t 38)], some (37, true)⟩, ⟨some 40, .mv (.t 0), some (37, true)⟩, ⟨some 41, .call 60 [(.t 40)], some (37, true)⟩, ⟨some 42, .call 30 [(.t 39), (.t 41)], some (37, true)⟩, ⟨some 43, .pick (.t 37) (.t 42) (.k (.bool false)), none⟩, ⟨some 44, .mv (.t 43), none⟩, ⟨some 45, .mv (.t 6), some (44, true)⟩, ⟨some 46, .bin .eql (.t 45) (.k (.int .i64 0)), some (44, true)⟩, ⟨some 47, .pick (.t 44) (.t 46) (.k (.bool false)), none⟩, ⟨some 48, .mv (.t 47), none⟩, ⟨some 49, .mv (.t 0), some (48, true)⟩, ⟨some 50, .mv (.t 5), some (48, true)⟩, ⟨some 51, .call 58 [(.t 49), (.t 50)], some (48, true)⟩, ⟨some 52, .pick (.t 48) (.t 51) (.k (.bool false)), none⟩, ⟨some 2, .mv (.t 52), none⟩])
 .ret)))))⟩
theorem epactlaw19_FracGets.chk : chkFn Try.prog Try.f15 epactlaw19_FracGets.c = true := by kernel_rfl
theorem epactlaw19_FracGets.ent : ∀ args w, (callFunc 15 args).run Try.prog w = .ok (.enter 15 args) w := enters Try.func15 (by kernel_rfl) (by kernel_rfl)

/-- epact/epactlaw16.ScaleTo -/
def epactlaw16_ScaleTo.c : SF := ⟨60, [.t 4],
 (.seq (.region [⟨some 3, .box (.t 1), none⟩, ⟨some 4, .mv (.k (.bool false)), none⟩])
 (.seq (.region [⟨some 10, .mv (.t 0), none⟩, ⟨some 11, .load true 2 (.t 3) (some 3), none⟩, ⟨some 12, .call 61 [(.t 10), (.t 11)], none⟩, ⟨some 9, .mv (.t 12), none⟩, ⟨some 13, .ext (.t 9) 0, none⟩, ⟨some 14, .ext (.t 9) 1, none⟩, ⟨some 5, .alloc [.v (.int .i64 0), .v (.int .u64 0)], none⟩, ⟨none, .store 2 (.t 5) (.t 13) 5, none⟩, ⟨some 6, .mv (.t 14), none⟩])
 (.seq (.region [⟨some 16, .mv (.t 0), none⟩, ⟨some 17, .call 62 [(.t 16)], none⟩, ⟨some 15, .mv (.t 17), none⟩, ⟨some 18, .ext (.t 15) 0, none⟩, ⟨some 19, .ext (.t 15) 1, none⟩, ⟨some 7, .alloc [.v (.bool false), .nil .i64], none⟩, ⟨none, .store 2 (.t 7) (.t 18) 7, none⟩, ⟨some 8, .mv (.t 19), none⟩])
 (.seq (.seq (.region [⟨some 20, .mv (.t 8), none⟩, ⟨some 21, .not (.t 20), none⟩])
 (.cond (.t 21)
 (.seq (.region [⟨some 22, .call 63 [], none⟩, ⟨some 23, .mv (.t 22), none⟩, ⟨some 24, .mv (.t 6), some (23, true)⟩, ⟨some 25, .bin .eql (.t 24) (.k (.int .i64 1)), some (23, true)⟩, ⟨some 26, .pick (.t 23) (.t 25) (.k (.bool false)), none⟩, ⟨some 27, .mv (.t 26), none⟩, ⟨some 28, .load true 2 (.t 5) (some 5), some (27, true)⟩, ⟨some 29, .build [.v (.int .i64 0), .v (.int .u64 0)] [], some (27, true)⟩, ⟨some 30, .eqs false [.i64, .u64] (.t 28) (.t 29), some (27, true)⟩, ⟨some 31, .pick (.t 27) (.t 30) (.k (.bool false)), none⟩, ⟨some 4, .mv (.t 31), none⟩])
 .ret)
 .skip))
 (.seq (.seq (.region [⟨some 32, .load true 2 (.t 3) (some 3), none⟩, ⟨some 33, .call 24 [(.t 32)], none⟩, ⟨some 34, .call 64 [(.t 33)], none⟩, ⟨some 35, .not (.t 34), none⟩])
 (.cond (.t 35)
 (.seq (.region [⟨some 36, .call 63 [], none⟩, ⟨some 37, .mv (.t 36), none⟩, ⟨some 38, .mv (.t 6), some (37, true)⟩, ⟨some 39, .bin .eql (.t 38) (.k (.int .i64 2)), some (37, true)⟩, ⟨some 40, .pick (.t 37) (.t 39) (.k (.bool false)), none⟩, ⟨some 41, .mv (.t 40), none⟩, ⟨some 42, .load true 2 (.t 5) (some 5), some (41, true)⟩, ⟨some 43, .build [.v (.int .i64 0), .v (.int .u64 0)] [], some (41, true)⟩, ⟨some 44, .eqs false [.i64, .u64] (.t 42) (.t 43), some (41, true)⟩, ⟨some 45, .pick (.t 41) (.t 44) (.k (.bool false)), none⟩, ⟨some 4, .mv (.t 45), none⟩])
 .ret)
 .skip))
 (.seq (.region [⟨some 46, .call 63 [], none⟩, ⟨some 47, .mv (.t 46), none⟩, ⟨some 48, .mv (.t 6), some (47, true)⟩, ⟨some 49, .bin .eql (.t 48) (.k (.int .i64 0)), some (47, true)⟩, ⟨some 50, .pick (.t 47) (.t 49) (.k (.bool false)), none⟩, ⟨some 51, .mv (.t 50), none⟩, ⟨some 52, .load true 2 (.t 5) (some 5), some (51, true)⟩, ⟨some 53, .call 24 [(.t 52)], some (51, true)⟩, ⟨some 54, .load true 2 (.t 3) (some 3), some (51, true)⟩, ⟨some 55, .call 24 [(.t 54)], some (51, true)⟩, ⟨some 56, .load true 2 (.t 7) (some 7), some (51, true)⟩, ⟨some 57, .call 47 [(.t 55), (.t 56)], some (51, true)⟩, ⟨some 58, .call 30 [(.t 53), (.t 57)], some (51, true)⟩, ⟨some 59, .pick (.t 51) (.t 58) (.k (.bool false)), none⟩, ⟨some 4, .mv (.t 59), none⟩])
 .ret))))))⟩
theorem epactlaw16_ScaleTo.chk : chkFn Try.prog Try.f16 epactlaw16_ScaleTo.c = true := by kernel_rfl
theorem epactlaw16_ScaleTo.ent : ∀ args w, (callFunc 16 args).run Try.prog w = .ok (.enter 16 args) w := enters Try.func16 (by kernel_rfl) (by kernel_rfl)

/-- epact/epactlaw16.ScaleFrom -/
def epactlaw16_ScaleFrom.c : SF := ⟨61, [.t 4],
 (.seq (.region [⟨some 3, .box (.t 1), none⟩, ⟨some 4, .mv (.k (.bool false)), none⟩])
 (.seq (.region [⟨some 11, .mv (.t 0), none⟩, ⟨some 12, .load true 2 (.t 3) (some 3), none⟩, ⟨some 13, .call 65 [(.t 11), (.t 12)], none⟩, ⟨some 10, .mv (.t 13), none⟩, ⟨some 14, .ext (.t 10) 0, none⟩, ⟨some 15, .ext (.t 10) 1, none⟩, ⟨some 5, .alloc [.v (.int .i64 0), .v (.int .u64 0)], none⟩, ⟨none, .store 2 (.t 5) (.t 14) 5, none⟩, ⟨some 6, .mv (.t 15), none⟩])
 (.seq (.region [⟨some 17, .mv (.t 0), none⟩, ⟨some 18, .call 62 [(.t 17)], none⟩, ⟨some 16, .mv (.t 18), none⟩, ⟨some 19, .ext (.t 16) 0, none⟩, ⟨some 20, .ext (.t 16) 1, none⟩, ⟨some 7, .alloc [.v (.bool false), .nil .i64], none⟩, ⟨none, .store 2 (.t 7) (.t 19) 7, none⟩, ⟨some 8, .mv (.t 20), none⟩])
 (.seq (.seq (.region [⟨some 21, .mv (.t 8), none⟩, ⟨some 22, .not (.t 21), none⟩])
 (.cond (.t 22)
 (.seq (.region [⟨some 23, .call 63 [], none⟩, ⟨some 24, .mv (.t 23), none⟩, ⟨some 25, .mv (.t 6), some (24, true)⟩, ⟨some 26, .bin .eql (.t 25) (.k (.int .i64 1)), some (24, true)⟩, ⟨some 27, .pick (.t 24) (.t 26) (.k (.bool false)), none⟩, ⟨some 28, .mv (.t 27), none⟩, ⟨some 29, .load true 2 (.t 5) (some 5), some (28, true)⟩, ⟨some 30, .build [.v (.int .i64 0), .v (.int .u64 0)] [], some (28, true)⟩, ⟨some 31, .eqs false [.i64, .u64] (.t 29) (.t 30), some (28, true)⟩, ⟨some 32, .pick (.t 28) (.t 31) (.k (.bool false)), none⟩, ⟨some 4, .mv (.t 32), none⟩])
 .ret)
 .skip))
 (.seq (.region [⟨some 33, .load true 2 (.t 3) (some 3), none⟩, ⟨some 34, .call 24 [(.t 33)], none⟩, ⟨some 35, .load true 2 (.t 7) (some 7), none⟩, ⟨some 36, .call 31 [(.t 34), (.t 35)], none⟩, ⟨some 9, .alloc [.v (.bool false), .nil .i64], none⟩, ⟨none, .store 2 (.t 9) (.t 36) 9, none⟩])
 (.seq (.seq (.region [⟨some 37, .load true 2 (.t 9) (some 9), none⟩, ⟨some 38, .call 64 [(.t 37)], none⟩, ⟨some 39, .not (.t 38), none⟩])
 (.cond (.t 39)
 (.seq (.region [⟨some 40, .call 63 [], none⟩, ⟨some 41, .mv (.t 40), none⟩, ⟨some 42, .mv (.t 6), some (41, true)⟩, ⟨some 43, .bin .eql (.t 42) (.k (.int .i64 2)), some (41, true)⟩, ⟨some 44, .pick (.t 41) (.t 43) (.k (.bool false)), none⟩, ⟨some 45, .mv (.t 44), none⟩, ⟨some 46, .load true 2 (.t 5) (some 5), some (45, true)⟩, ⟨some 47, .build [.v (.int .i64 0), .v (.int .u64 0)] [], some (45, true)⟩, ⟨some 48, .eqs false [.i64, .u64] (.t 46) (.t 47), some (45, true)⟩, ⟨some 49, .pick (.t 45) (.t 48) (.k (.bool false)), none⟩, ⟨some 4, .mv (.t 49), none⟩])
 .ret)
 .skip))
 (.seq (.region [⟨some 50, .call 63 [], none⟩, ⟨some 51, .mv (.t 50), none⟩, ⟨some 52, .mv (.t 6), some (51, true)⟩, ⟨some 53, .bin .eql (.t 52) (.k (.int .i64 0)), some (51, true)⟩, ⟨some 54, .pick (.t 51) (.t 53) (.k (.bool false)), none⟩, ⟨some 55, .mv (.t 54), none⟩, ⟨some 56, .load true 2 (.t 5) (some 5), some (55, true)⟩, ⟨some 57, .call 24 [(.t 56)], some (55, true)⟩, ⟨some 58, .load true 2 (.t 9) (some 9), some (55, true)⟩, ⟨some 59, .call 30 [(.t 57), (.t 58)], some (55, true)⟩, ⟨some 60, .pick (.t 55) (.t 59) (.k (.bool false)), none⟩, ⟨some 4, .mv (.t 60), none⟩])
 .ret)))))))⟩
theorem epactlaw16_ScaleFrom.chk : chkFn Try.prog Try.f17 epactlaw16_ScaleFrom.c = true := by kernel_rfl
theorem epactlaw16_ScaleFrom.ent : ∀ args w, (callFunc 17 args).run Try.prog w = .ok (.enter 17 args) w := enters Try.func17 (by kernel_rfl) (by kernel_rfl)

/-- epact/epactlaw16.ScaleBack -/
def epactlaw16_ScaleBack.c : SF := ⟨91, [.t 4],
 (.seq (.region [⟨some 3, .box (.t 1), none⟩, ⟨some 4, .mv (.k (.bool false)), none⟩])
 (.seq (.region [⟨some 20, .mv (.t 0), none⟩, ⟨some 21, .load true 2 (.t 3) (some 3), none⟩, ⟨some 22, .call 61 [(.t 20), (.t 21)], none⟩, ⟨some 19, .mv (.t 22), none⟩, ⟨some 23, .ext (.t 19) 0, none⟩, ⟨some 24, .ext (.t 19) 1, none⟩, ⟨some 5, .alloc [.v (.int .i64 0), .v (.int .u64 0)], none⟩, ⟨none, .store 2 (.t 5) (.t 23) 5, none⟩, ⟨some 6, .mv (.t 24), none⟩])
 (.seq (.seq (.region [⟨some 25, .mv (.t 6), none⟩, ⟨some 26, .bin .neq (.t 25) (.k (.int .i64 0)), none⟩])
 (.cond (.t 26)
 (.seq (.region [⟨some 27, .call 63 [], none⟩, ⟨some 4, .mv (.t 27), none⟩])
 .ret)
 .skip))
 (.seq (.region [⟨some 29, .mv (.t 0), none⟩, ⟨some 30, .load true 2 (.t 5) (some 5), none⟩, ⟨some 31, .call 65 [(.t 29), (.t 30)], none⟩, ⟨some 28, .mv (.t 31), none⟩, ⟨some 32, .ext (.t 28) 0, none⟩, ⟨some 33, .ext (.t 28) 1, none⟩, ⟨some 7, .alloc [.v (.int .i64 0), .v (.int .u64 0)], none⟩, ⟨none, .store 2 (.t 7) (.t 32) 7, none⟩, ⟨some 8, .mv (.t 33), none⟩])
 (.seq (.region [⟨some 35, .load true 2 (.t 3) (some 3), none⟩, ⟨some 36, .call 61 [(.k (.int .i64 1)), (.t 35)], none⟩, ⟨some 34, .mv (.t 36), none⟩, ⟨some 37, .ext (.t 34) 0, none⟩, ⟨some 38, .ext (.t 34) 1, none⟩, ⟨some 9, .alloc [.v (.int .i64 0), .v (.int .u64 0)], none⟩, ⟨none, .store 2 (.t 9) (.t 37) 9, none⟩, ⟨some 10, .mv (.t 38), none⟩])
 (.seq (.region [⟨some 40, .load true 2 (.t 3) (some 3), none⟩, ⟨some 41, .call 61 [(.k (.int .i64 2)), (.t 40)], none⟩, ⟨some 39, .mv (.t 41), none⟩, ⟨some 42, .ext (.t 39) 0, none⟩, ⟨some 43, .ext (.t 39) 1, none⟩, ⟨some 11, .alloc [.v (.int .i64 0), .v (.int .u64 0)], none⟩, ⟨none, .store 2 (.t 11) (.t 42) 11, none⟩, ⟨some 12, .mv (.t 43), none⟩])
 (.seq (.region [⟨some 45, .load true 2 (.t 3) (some 3), none⟩, ⟨some 46, .call 61 [(.k (.int .i64 3)), (.t 45)], none⟩, ⟨some 44, .mv (.t 46), none⟩, ⟨some 47, .ext (.t 44) 0, none⟩, ⟨some 48, .ext (.t 44) 1, none⟩, ⟨some 13, .alloc [.v (.int .i64 0), .v (.int .u64 0)], none⟩, ⟨none, .store 2 (.t 13) (.t 47) 13, none⟩, ⟨some 14, .mv (.t 48), none⟩])
 (.seq (.region [⟨some 49, .load true 2 (.t 9) (some 9), none⟩, ⟨some 50, .call 24 [(.t 49)], none⟩, ⟨some 51, .build [.v (.int .i64 0), .v (.int .i64 0), .v (.int .i64 0)] [(0, 1, (.k (.int .i64 36204)))], none⟩, ⟨some 52, .call 40 [(.t 51)], none⟩, ⟨some 53, .call 31 [(.t 50), (.t 52)], none⟩, ⟨some 54, .build [.v (.int .i64 0), .v (.int .i64 0), .v (.int .i64 0)] [(0, 1, (.k (.int .i64 44244)))], none⟩, ⟨some 55, .call 40 [(.t 54)], none⟩, ⟨some 15, .alloc [.v (.bool false), .nil .i64], none⟩, ⟨some 16, .alloc [.v (.bool false), .nil .i64], none⟩, ⟨none, .store 2 (.t 15) (.t 53) 15, none⟩, ⟨none, .store 2 (.t 16) (.t 55) 16, none⟩])
 (.seq (.region [⟨some 56, .load true 2 (.t 11) (some 11), none⟩, ⟨some 57, .call 24 [(.t 56)], none⟩, ⟨some 58, .build [.v (.int .i64 0), .v (.int .i64 0), .v (.int .i64 0)] [(0, 1, (.k (.int .i64 51544))), (1, 1, (.k (.int .i64 43200)))], none⟩, ⟨some 59, .call 40 [(.t 58)], none⟩, ⟨some 60, .call 31 [(.t 57), (.t 59)], none⟩, ⟨some 61, .load true 2 (.t 15) (some 15), none⟩, ⟨some 62, .call 47 [(.t 60), (.t 61)], none⟩, ⟨some 17, .alloc [.v (.bool false), .nil .i64], none⟩, ⟨none, .store 2 (.t 17) (.t 62) 17, none⟩])
 (.seq (.region [⟨some 63, .load true 2 (.t 15) (some 15), none⟩, ⟨some 64, .load true 2 (.t 13) (some 13), none⟩, ⟨some 65, .call 24 [(.t 64)], none⟩, ⟨some 66, .load true 2 (.t 16) (some 16), none⟩, ⟨some 67, .call 31 [(.t 65), (.t 66)], none⟩, ⟨some 68, .call 47 [(.t 63), (.t 67)], none⟩, ⟨some 18, .alloc [.v (.bool false), .nil .i64], none⟩, ⟨none, .store 2 (.t 18) (.t 68) 18, none⟩])
 (.seq (.region [⟨some 69, .call 63 [], none⟩, ⟨some 70, .mv (.t 69), none⟩, ⟨some 71, .mv (.t 8), some (70, true)⟩, ⟨some 72, .bin .eql (.t 71) (.k (.int .i64 0)), some (70, true)⟩, ⟨some 73, .pick (.t 70) (.t 72) (.k (.bool false)), none⟩, ⟨some 74, .mv (.t 73), none⟩, ⟨some 75, .load true 2 (.t 7) (some 7), some (74, true)⟩, ⟨some 76, .load true 2 (.t 3) (some 3), some (74, true)⟩, ⟨some 77, .eqs false [.i64, .u64] (.t 75) (.t 76), some (74, true)⟩, ⟨some 78, .pick (.t 74) (.t 77) (.k (.bool false)), none⟩, ⟨some 79, .mv (.t 78), none⟩, ⟨some 80, .load true 2 (.t 17) (some 17), some (79, true)⟩, ⟨some 81, .build [.v (.int .i64 0), .v (.int .i64 0), .v (.int .i64 0)] [(1, 1, (.k (.int .i64 32))), (2, 1, (.k (.int .i64 184000000000000000)))], some (79, true)⟩, ⟨some 82, .call 40 [(.t 81)], some (79, true)⟩, ⟨some 83, .call 30 [(.t 80), (.t 82)], some (79, true)⟩, ⟨some 84, .pick (.t 79) (.t 83) (.k (.bool false)), none⟩, ⟨some 85, .mv (.t 84), none⟩, ⟨some 86, .load true 2 (.t 18) (some 18), some (85, true)⟩, ⟨some 87, .build [.v (.int .i64 0), .v (.int .i64 0), .v (.int .i64 0)] [(1, 1, (.k (.int .i64 19)))], some (85, true)⟩, ⟨some 88, .call 40 [(.t 87)], some (85, true)⟩, ⟨some 89, .call 30 [(.t 86), (.t 88)], some (85, true)⟩, ⟨some 90, .pick (.t 85) (.t 89) (.k (.bool false)), none⟩, ⟨some 4, .mv (.t 90), none⟩])
 .ret)))))))))))⟩
theorem epactlaw16_ScaleBack.chk : chkFn Try.prog Try.f18 epactlaw16_ScaleBack.c = true := by kernel_rfl
theorem epactlaw16_ScaleBack.ent : ∀ args w, (callFunc 18 args).run Try.prog w = .ok (.enter 18 args) w := enters Try.func18 (by kernel_rfl) (by kernel_rfl)

/-- epact/epactlaw24.PtpEncodes -/
def epactlaw24_PtpEncodes.c : SF := ⟨29, [.t 2],
 (.seq (.region [⟨some 1, .box (.t 0), none⟩, ⟨some 2, .mv (.k (.bool false)), none⟩])
 (.seq (.region [⟨some 8, .load true 2 (.t 1) (some 1), none⟩, ⟨some 9, .call 66 [(.t 8)], none⟩, ⟨some 7, .mv (.t 9), none⟩, ⟨some 10, .ext (.t 7) 0, none⟩, ⟨some 11, .ext (.t 7) 1, none⟩, ⟨some 3, .mv (.t 10), none⟩, ⟨some 4, .mv (.t 11), none⟩])
 (.seq (.region [⟨some 13, .load true 2 (.t 1) (some 1), none⟩, ⟨some 14, .call 24 [(.t 13)], none⟩, ⟨some 15, .call 67 [(.t 14)], none⟩, ⟨some 12, .mv (.t 15), none⟩, ⟨some 16, .ext (.t 12) 0, none⟩, ⟨some 17, .ext (.t 12) 1, none⟩, ⟨some 5, .mv (.t 16), none⟩, ⟨some 6, .mv (.t 17), none⟩])
 (.seq (.region [⟨some 18, .call 68 [], none⟩, ⟨some 19, .mv (.t 18), none⟩, ⟨some 20, .mv (.t 4), some (19, true)⟩, ⟨some 21, .mv (.t 6), some (19, true)⟩, ⟨some 22, .bin .eql (.t 20) (.t 21), some (19, true)⟩, ⟨some 23, .pick (.t 19) (.t 22) (.k (.bool false)), none⟩, ⟨some 24, .mv (.t 23), none⟩, ⟨some 25, .mv (.t 3), some (24, true)⟩, ⟨some 26, .mv (.t 5), some (24, true)⟩, ⟨some 27, .call 58 [(.t 25), (.t 26)], some (24, true)⟩, ⟨some 28, .pick (.t 24) (.t 27) (.k (.bool false)), none⟩, ⟨some 2, .mv (.t 28), none⟩])
 .ret))))⟩
theorem epactlaw24_PtpEncodes.chk : chkFn Try.prog Try.f19 epactlaw24_PtpEncodes.c = true := by kernel_rfl
theorem epactlaw24_PtpEncodes.ent : ∀ args w, (callFunc 19 args).run Try.prog w = .ok (.enter 19 args) w := enters Try.func19 (by kernel_rfl) (by kernel_rfl)

/-- epact/epactlaw24.PtpDecodes -/
def epactlaw24_PtpDecodes.c : SF := ⟨56, [.t 2],
 (.seq (.region [⟨some 2, .mv (.k (.bool false)), none⟩])
 (.seq (.region [⟨some 10, .mv (.t 0), none⟩, ⟨some 11, .call 69 [(.t 10)], none⟩, ⟨some 9, .mv (.t 11), none⟩, ⟨some 12, .ext (.t 9) 0, none⟩, ⟨some 13, .ext (.t 9) 1, none⟩, ⟨some 3, .alloc [.v (.int .i64 0), .v (.int .u64 0)], none⟩, ⟨none, .store 2 (.t 3) (.t 12) 3, none⟩, ⟨some 4, .mv (.t 13), none⟩])
 (.seq (.region [⟨some 15, .mv (.t 0), none⟩, ⟨some 16, .call 70 [(.t 15)], none⟩, ⟨some 14, .mv (.t 16), none⟩, ⟨some 17, .ext (.t 14) 0, none⟩, ⟨some 18, .ext (.t 14) 1, none⟩, ⟨some 5, .alloc [.v (.bool false), .nil .i64], none⟩, ⟨none, .store 2 (.t 5) (.t 17) 5, none⟩, ⟨some 6, .mv (.t 18), none⟩])
 (.seq (.seq (.region [⟨some 19, .mv (.t 6), none⟩, ⟨some 20, .not (.t 19), none⟩])
 (.cond (.t 20)
 (.seq (.region [⟨some 21, .call 68 [], none⟩, ⟨some 22, .mv (.t 21), none⟩, ⟨some 23, .mv (.t 4), some (22, true)⟩, ⟨some 24, .bin .eql (.t 23) (.k (.int .i64 4)), some (22, true)⟩, ⟨some 25, .pick (.t 22) (.t 24) (.k (.bool false)), none⟩, ⟨some 26, .mv (.t 25), none⟩, ⟨some 27, .load true 2 (.t 3) (some 3), some (26, true)⟩, ⟨some 28, .build [.v (.int .i64 0), .v (.int .u64 0)] [], some (26, true)⟩, ⟨some 29, .eqs false [.i64, .u64] (.t 27) (.t 28), some (26, true)⟩, ⟨some 30, .pick (.t 26) (.t 29) (.k (.bool false)), none⟩, ⟨some 2, .mv (.t 30), none⟩])
 .ret)
 .skip))
 (.seq (.region [⟨some 32, .load true 2 (.t 3) (some 3), none⟩, ⟨some 33, .call 66 [(.t 32)], none⟩, ⟨some 31, .mv (.t 33), none⟩, ⟨some 34, .ext (.t 31) 0, none⟩, ⟨some 35, .ext (.t 31) 1, none⟩, ⟨some 7, .mv (.t 34), none⟩, ⟨some 8, .mv (.t 35), none⟩])
 (.seq (.region [⟨some 36, .call 68 [], none⟩, ⟨some 37, .mv (.t 36), none⟩, ⟨some 38, .mv (.t 4), some (37, true)⟩, ⟨some 39, .bin .eql (.t 38) (.k (.int .i64 0)), some (37, true)⟩, ⟨some 40, .pick (.t 37) (.t 39) (.k (.bool false)), none⟩, ⟨some 41, .mv (.t 40), none⟩, ⟨some 42, .load true 2 (.t 3) (some 3), some (41, true)⟩, ⟨some 43, .call 24 [(.t 42)], some (41, true)⟩, ⟨some 44, .load true 2 (.t 5) (some 5), some (41, true)⟩, ⟨some 45, .call 30 [(.t 43), (.t 44)], some (41, true)⟩, ⟨some 46, .pick (.t 41) (.t 45) (.k (.bool false)), none⟩, ⟨some 47, .mv (.t 46), none⟩, ⟨some 48, .mv (.t 8), some (47, true)⟩, ⟨some 49, .bin .eql (.t 48) (.k (.int .i64 0)), some (47, true)⟩, ⟨some 50, .pick (.t 47) (.t 49) (.k (.bool false)), none⟩, ⟨some 51, .mv (.t 50), none⟩, ⟨some 52, .mv (.t 0), some (51, true)⟩, ⟨some 53, .mv (.t 7), some (51, true)⟩, ⟨some 54, .call 58 [(.t 52), (.t 53)], some (51, true)⟩, ⟨some 55, .pick (.t 51) (.t 54) (.k (.bool false)), none⟩, ⟨some 2, .mv (.t 55), none⟩])
 .ret))))))⟩
theorem epactlaw24_PtpDecodes.chk : chkFn Try.prog Try.f20 epactlaw24_PtpDecodes.c = true := by kernel_rfl
theorem epactlaw24_PtpDecodes.ent : ∀ args w, (callFunc 20 args).run Try.prog w = .ok (.enter 20 args) w := enters Try.func20 (by kernel_rfl) (by kernel_rfl)

/-- epact/epactlaw24.PtpFloors -/
def epactlaw24_PtpFloors.c : SF := ⟨42, [.t 2],
 (.seq (.region [⟨some 1, .box (.t 0), none⟩, ⟨some 2, .mv (.k (.bool false)), none⟩])
 (.seq (.region [⟨some 10, .load true 2 (.t 1) (some 1), none⟩, ⟨some 11, .call 66 [(.t 10)], none⟩, ⟨some 9, .mv (.t 11), none⟩, ⟨some 12, .ext (.t 9) 0, none⟩, ⟨some 13, .ext (.t 9) 1, none⟩, ⟨some 3, .mv (.t 12), none⟩, ⟨some 4, .mv (.t 13), none⟩])
 (.seq (.seq (.region [⟨some 14, .mv (.t 4), none⟩, ⟨some 15, .bin .neq (.t 14) (.k (.int .i64 0)), none⟩])
 (.cond (.t 15)
 (.seq (.region [⟨some 16, .call 68 [], none⟩, ⟨some 2, .mv (.t 16), none⟩])
 .ret)
 .skip))
 (.seq (.region [⟨some 18, .mv (.t 3), none⟩, ⟨some 19, .call 69 [(.t 18)], none⟩, ⟨some 17, .mv (.t 19), none⟩, ⟨some 20, .ext (.t 17) 0, none⟩, ⟨some 21, .ext (.t 17) 1, none⟩, ⟨some 5, .alloc [.v (.int .i64 0), .v (.int .u64 0)], none⟩, ⟨none, .store 2 (.t 5) (.t 20) 5, none⟩, ⟨some 6, .mv (.t 21), none⟩])
 (.seq (.region [⟨some 23, .load true 2 (.t 1) (some 1), none⟩, ⟨some 24, .call 24 [(.t 23)], none⟩, ⟨some 25, .call 25 [(.k (.int .i64 1000000000))], none⟩, ⟨some 26, .call 29 [(.t 24), (.t 25)], none⟩, ⟨some 22, .mv (.t 26), none⟩, ⟨some 27, .ext (.t 22) 0, none⟩, ⟨some 28, .ext (.t 22) 1, none⟩, ⟨some 7, .alloc [.v (.bool false), .nil .i64], none⟩, ⟨some 8, .alloc [.v (.bool false), .nil .i64], none⟩, ⟨none, .store 2 (.t 7) (.t 27) 7, none⟩, ⟨none, .store 2 (.t 8) (.t 28) 8, none⟩])
 (.seq (.region [⟨some 29, .call 68 [], none⟩, ⟨some 30, .mv (.t 29), none⟩, ⟨some 31, .mv (.t 6), some (30, true)⟩, ⟨some 32, .bin .eql (.t 31) (.k (.int .i64 0)), some (30, true)⟩, ⟨some 33, .pick (.t 30) (.t 32) (.k (.bool false)), none⟩, ⟨some 34, .mv (.t 33), none⟩, ⟨some 35, .load true 2 (.t 5) (some 5), some (34, true)⟩, ⟨some 36, .call 24 [(.t 35)], some (34, true)⟩, ⟨some 37, .load true 2 (.t 7) (some 7), some (34, true)⟩, ⟨some 38, .call 25 [(.k (.int .i64 1000000000))], some (34, true)⟩, ⟨some 39, .call 34 [(.t 37), (.t 38)], some (34, true)⟩, ⟨some 40, .call 30 [(.t 36), (.t 39)], some (34, true)⟩, ⟨some 41, .pick (.t 34) (.t 40) (.k (.bool false)), none⟩, ⟨some 2, .mv (.t 41), none⟩])
 .ret))))))⟩
theorem epactlaw24_PtpFloors.chk : chkFn Try.prog Try.f21 epactlaw24_PtpFloors.c = true := by kernel_rfl
theorem epactlaw24_PtpFloors.ent : ∀ args w, (callFunc 21 args).run Try.prog w = .ok (.enter 21 args) w := enters Try.func21 (by kernel_rfl) (by kernel_rfl)

/-- epact/ratio.Make -/
def ratio_Make.c : SF := ⟨38, [.c 4 true 4, .t 5],
 (.seq (.region [⟨some 2, .box (.t 0), none⟩, ⟨some 3, .box (.t 1), none⟩, ⟨some 4, .alloc [.v (.int .i64 0), .v (.int .u64 0), .v (.int .i64 0), .v (.int .u64 0)], none⟩, ⟨some 5, .mv (.k (.int .i64 0)), none⟩])
 (.seq (.seq (.region [⟨some 13, .load true 2 (.t 3) (some 3), none⟩, ⟨some 14, .build [.v (.int .i64 0), .v (.int .u64 0)] [], none⟩, ⟨some 15, .call 71 [(.t 13), (.t 14)], none⟩, ⟨some 16, .bin .leq (.t 15) (.k (.int .i64 0)), none⟩])
 (.cond (.t 16)
 (.seq (.region [⟨some 17, .build [.v (.int .i64 0), .v (.int .u64 0), .v (.int .i64 0), .v (.int .u64 0)] [], none⟩, ⟨none, .store 4 (.t 4) (.t 17) 4, none⟩, ⟨some 5, .mv (.k (.int .i64 3)), none⟩])
 .ret)
 .skip))
 (.seq (.region [⟨some 18, .load true 2 (.t 2) (some 2), none⟩, ⟨some 19, .load true 2 (.t 3) (some 3), none⟩, ⟨some 20, .call 72 [(.t 18), (.t 19)], none⟩, ⟨some 6, .alloc [.v (.int .i64 0), .v (.int .u64 0)], none⟩, ⟨none, .store 2 (.t 6) (.t 20) 6, none⟩])
 (.seq (.region [⟨some 22, .load true 2 (.t 2) (some 2), none⟩, ⟨some 23, .load true 2 (.t 6) (some 6), none⟩, ⟨some 24, .call 73 [(.t 22), (.t 23)], none⟩, ⟨some 21, .mv (.t 24), none⟩, ⟨some 25, .ext (.t 21) 0, none⟩, ⟨some 26, .ext (.t 21) 1, none⟩, ⟨some 27, .ext (.t 21) 2, none⟩, ⟨some 7, .alloc [.v (.int .i64 0), .v (.int .u64 0)], none⟩, ⟨some 8, .alloc [.v (.int .i64 0), .v (.int .u64 0)], none⟩, ⟨none, .store 2 (.t 7) (.t 25) 7, none⟩, ⟨none, .store 2 (.t 8) (.t 26) 8, none⟩, ⟨some 9, .mv (.t 27), none⟩])
 (.seq (.region [⟨some 29, .load true 2 (.t 3) (some 3), none⟩, ⟨some 30, .load true 2 (.t 6) (some 6), none⟩, ⟨some 31, .call 73 [(.t 29), (.t 30)], none⟩, ⟨some 28, .mv (.t 31), none⟩, ⟨some 32, .ext (.t 28) 0, none⟩, ⟨some 33, .ext (.t 28) 1, none⟩, ⟨some 34, .ext (.t 28) 2, none⟩, ⟨some 10, .alloc [.v (.int .i64 0), .v (.int .u64 0)], none⟩, ⟨some 11, .alloc [.v (.int .i64 0), .v (.int .u64 0)], none⟩, ⟨none, .store 2 (.t 10) (.t 32) 10, none⟩, ⟨none, .store 2 (.t 11) (.t 33) 11, none⟩, ⟨some 12, .mv (.t 34), none⟩])
 (.seq (.region [⟨some 35, .load true 2 (.t 7) (some 7), none⟩, ⟨some 36, .load true 2 (.t 10) (some 10), none⟩, ⟨some 37, .build [.v (.int .i64 0), .v (.int .u64 0), .v (.int .i64 0), .v (.int .u64 0)] [(0, 2, (.t 35)), (2, 2, (.t 36))], none⟩, ⟨none, .store 4 (.t 4) (.t 37) 4, none⟩, ⟨some 5, .mv (.k (.int .i64 0)), none⟩])
 .ret))))))⟩
theorem ratio_Make.chk : chkFn Try.prog Try.f22 ratio_Make.c = true := by kernel_rfl
theorem ratio_Make.ent : ∀ args w, (callFunc 22 args).run Try.prog w = .ok (.enter 22 args) w := enters Try.func22 (by kernel_rfl) (by kernel_rfl)

/-- epact/epactref01.Cmp -/
def epactref01_Cmp.c : SF := ⟨24, [.t 4],
 (.seq (.region [⟨some 2, .box (.t 0), none⟩, ⟨some 3, .box (.t 1), none⟩, ⟨some 4, .mv (.k (.int .i64 0)), none⟩])
 (.seq (.seq (.region [⟨some 5, .fld 0 (.t 2), none⟩, ⟨some 6, .load false 1 (.t 5) (some 2), none⟩, ⟨some 7, .fld 0 (.t 3), none⟩, ⟨some 8, .load false 1 (.t 7) (some 3), none⟩, ⟨some 9, .eqb true (.t 6) (.t 8), none⟩])
 (.cond (.t 9)
 (.seq (.seq (.region [⟨some 10, .fld 0 (.t 2), none⟩, ⟨some 11, .load false 1 (.t 10) (some 2), none⟩])
 (.cond (.t 11)
 (.seq (.region [⟨some 4, .mv (.k (.int .i64 (-1))), none⟩])
 .ret)
 .skip))
 (.seq (.region [⟨some 4, .mv (.k (.int .i64 1)), none⟩])
 .ret))
 .skip))
 (.seq (.seq (.region [⟨some 12, .fld 0 (.t 2), none⟩, ⟨some 13, .load false 1 (.t 12) (some 2), none⟩])
 (.cond (.t 13)
 (.seq (.region [⟨some 14, .fld 1 (.t 3), none⟩, ⟨some 15, .load false 1 (.t 14) (some 3), none⟩, ⟨some 16, .fld 1 (.t 2), none⟩, ⟨some 17, .load false 1 (.t 16) (some 2), none⟩, ⟨some 18, .call 74 [(.t 15), (.t 17)], none⟩, ⟨some 4, .mv (.t 18), none⟩])
 .ret)
 .skip))
 (.seq (.region [⟨some 19, .fld 1 (.t 2), none⟩, ⟨some 20, .load false 1 (.t 19) (some 2), none⟩, ⟨some 21, .fld 1 (.t 3), none⟩, ⟨some 22, .load false 1 (.t 21) (some 3), none⟩, ⟨some 23, .call 74 [(.t 20), (.t 22)], none⟩, ⟨some 4, .mv (.t 23), none⟩])
 .ret))))⟩
theorem epactref01_Cmp.chk : chkFn Try.prog Try.f23 epactref01_Cmp.c = true := by kernel_rfl
theorem epactref01_Cmp.ent : ∀ args w, (callFunc 23 args).run Try.prog w = .ok (.enter 23 args) w := enters Try.func23 (by kernel_rfl) (by kernel_rfl)

/-- epact/epactref01.Of -/
def epactref01_Of.c : SF := ⟨14, [.c 2 true 2],
 (.seq (.region [⟨some 1, .box (.t 0), none⟩, ⟨some 2, .alloc [.v (.bool false), .nil .i64], none⟩])
 (.seq (.region [⟨some 4, .fld 0 (.t 1), none⟩, ⟨some 5, .load false 1 (.t 4) (some 1), none⟩, ⟨some 6, .call 25 [(.t 5)], none⟩, ⟨some 3, .alloc [.v (.bool false), .nil .i64], none⟩, ⟨none, .store 2 (.t 3) (.t 6) 3, none⟩])
 (.seq (.region [⟨some 7, .load true 2 (.t 3) (some 3), none⟩, ⟨some 8, .call 75 [(.k (.int .i64 64))], none⟩, ⟨some 9, .call 34 [(.t 7), (.t 8)], none⟩, ⟨some 10, .fld 1 (.t 1), none⟩, ⟨some 11, .load false 1 (.t 10) (some 1), none⟩, ⟨some 12, .call 76 [(.t 11)], none⟩, ⟨some 13, .call 31 [(.t 9), (.t 12)], none⟩, ⟨none, .store 2 (.t 2) (.t 13) 2, none⟩])
 .ret)))⟩
theorem epactref01_Of.chk : chkFn Try.prog Try.f24 epactref01_Of.c = true := by kernel_rfl
theorem epactref01_Of.ent : ∀ args w, (callFunc 24 args).run Try.prog w = .ok (.enter 24 args) w := enters Try.func24 (by kernel_rfl) (by kernel_rfl)

/-- epact/epactref01.Int -/
def epactref01_Int.c : SF := ⟨18, [.c 2 true 2],
 (.seq (.region [⟨some 2, .alloc [.v (.bool false), .nil .i64], none⟩])
 (.seq (.seq (.region [⟨some 4, .mv (.t 0), none⟩, ⟨some 5, .bin .geq (.t 4) (.k (.int .i64 0)), none⟩])
 (.cond (.t 5)
 (.seq (.region [⟨some 6, .mv (.t 0), none⟩, ⟨some 7, .cvt .u64 (.t 6), none⟩, ⟨some 8, .call 76 [(.t 7)], none⟩, ⟨none, .store 2 (.t 2) (.t 8) 2, none⟩])
 .ret)
 .skip))
 (.seq (.region [⟨some 9, .mv (.t 0), none⟩, ⟨some 10, .bin .add (.t 9) (.k (.int .i64 1)), none⟩, ⟨some 11, .neg (.t 10), none⟩, ⟨some 12, .cvt .u64 (.t 11), none⟩, ⟨some 13, .call 76 [(.t 12)], none⟩, ⟨some 3, .alloc [.v (.bool false), .nil .i64], none⟩, ⟨none, .store 2 (.t 3) (.t 13) 3, none⟩])
 (.seq (.region [⟨some 14, .load true 2 (.t 3) (some 3), none⟩, ⟨some 15, .call 76 [(.k (.int .u64 1))], none⟩, ⟨some 16, .call 31 [(.t 14), (.t 15)], none⟩, ⟨some 17, .call 77 [(.t 16)], none⟩, ⟨none, .store 2 (.t 2) (.t 17) 2, none⟩])
 .ret))))⟩
theorem epactref01_Int.chk : chkFn Try.prog Try.f25 epactref01_Int.c = true := by kernel_rfl
theorem epactref01_Int.ent : ∀ args w, (callFunc 25 args).run Try.prog w = .ok (.enter 25 args) w := enters Try.func25 (by kernel_rfl) (by kernel_rfl)

/-- epact/epactlaw03.answers -/
def epactlaw03_answers.c : SF := ⟨30, [.t 0],
 (.seq (.region [⟨some 0, .mv (.k (.bool false)), none⟩])
 (.seq (.region [⟨some 4, .call 78 [(.k (.int .i64 (-6)))], none⟩, ⟨some 5, .call 78 [(.k (.int .i64 4))], none⟩, ⟨some 6, .call 22 [(.t 4), (.t 5)], none⟩, ⟨some 3, .mv (.t 6), none⟩, ⟨some 7, .ext (.t 3) 0, none⟩, ⟨some 8, .ext (.t 3) 1, none⟩, ⟨some 1, .alloc [.v (.int .i64 0), .v (.int .u64 0), .v (.int .i64 0), .v (.int .u64 0)], none⟩, ⟨none, .store 4 (.t 1) (.t 7) 1, none⟩, ⟨some 2, .mv (.t 8), none⟩])
 (.seq (.region [⟨some 9, .mv (.t 2), none⟩, ⟨some 10, .bin .eql (.t 9) (.k (.int .i64 0)), none⟩, ⟨some 11, .mv (.t 10), none⟩, ⟨some 12, .load true 4 (.t 1) (some 1), some (11, true)⟩, ⟨some 13, .call 78 [(.k (.int .i64 (-3)))], some (11, true)⟩, ⟨some 14, .call 78 [(.k (.int .i64 2))], some (11, true)⟩, ⟨some 15, .build [.v (.int .i64 0), .v (.int .u64 0), .v (.int .i64 0), .v (.int .u64 0)] [(0, 2, (.t 13)), (2, 2, (.t 14))], some (11, true)⟩, ⟨some 16, .eqs false [.i64, .u64, .i64, .u64] (.t 12) (.t 15), some (11, true)⟩, ⟨some 17, .pick (.t 11) (.t 16) (.k (.bool false)), none⟩, ⟨some 18, .mv (.t 17), none⟩, ⟨some 19, .load true 4 (.t 1) (some 1), some (18, true)⟩, ⟨some 20, .call 32 [(.t 19)], some (18, true)⟩, ⟨some 21, .call 78 [(.k (.int .i64 (-2)))], some (18, true)⟩, ⟨some 22, .eqs false [.i64, .u64] (.t 20) (.t 21), some (18, true)⟩, ⟨some 23, .pick (.t 18) (.t 22) (.k (.bool false)), none⟩, ⟨some 24, .mv (.t 23), none⟩, ⟨some 25, .load true 4 (.t 1) (some 1), some (24, true)⟩, ⟨some 26, .call 33 [(.t 25)], some (24, true)⟩, ⟨some 27, .call 78 [(.k (.int .i64 (-1)))], some (24, true)⟩, ⟨some 28, .eqs false [.i64, .u64] (.t 26) (.t 27), some (24, true)⟩, ⟨some 29, .pick (.t 24) (.t 28) (.k (.bool false)), none⟩, ⟨some 0, .mv (.t 29), none⟩])
 .ret)))⟩
theorem epactlaw03_answers.chk : chkFn Try.prog Try.f26 epactlaw03_answers.c = true := by kernel_rfl
theorem epactlaw03_answers.ent : ∀ args w, (callFunc 26 args).run Try.prog w = .ok (.enter 26 args) w := enters Try.func26 (by kernel_rfl) (by kernel_rfl)

/-- epact/epactlaw03.is -/
def epactlaw03_is.l1 : SC :=
 (.forget [9, 10] (.seq (.seq (.region [⟨some 34, .load true 2 (.t 7) (some 7), none⟩, ⟨some 35, .call 25 [(.k (.int .i64 0))], none⟩, ⟨some 36, .call 23 [(.t 34), (.t 35)], none⟩, ⟨some 37, .bin .gtr (.t 36) (.k (.int .i64 0)), none⟩])
 (.cond (.t 37)
 .skip
 (.exit 0)))
 (.block 1
 (.seq (.region [⟨some 39, .load true 2 (.t 8) (some 8), none⟩, ⟨some 40, .load true 2 (.t 7) (some 7), none⟩, ⟨some 41, .call 29 [(.t 39), (.t 40)], none⟩, ⟨some 38, .mv (.t 41), none⟩, ⟨some 42, .ext (.t 38) 0, none⟩, ⟨some 43, .ext (.t 38) 1, none⟩, ⟨some 9, .alloc [.v (.bool false), .nil .i64], none⟩, ⟨some 10, .alloc [.v (.bool false), .nil .i64], none⟩, ⟨none, .store 2 (.t 9) (.t 42) 9, none⟩, ⟨none, .store 2 (.t 10) (.t 43) 10, none⟩])
 (.region [⟨some 44, .load true 2 (.t 7) (some 7), none⟩, ⟨some 45, .load true 2 (.t 10) (some 10), none⟩, ⟨none, .store 2 (.t 8) (.t 44) 8, none⟩, ⟨none, .store 2 (.t 7) (.t 45) 7, none⟩])))))
def epactlaw03_is.c : SF := ⟨54, [.t 6],
 (.seq (.region [⟨some 3, .box (.t 0), none⟩, ⟨some 4, .box (.t 1), none⟩, ⟨some 5, .box (.t 2), none⟩, ⟨some 6, .mv (.k (.bool false)), none⟩])
 (.seq (.seq (.region [⟨some 11, .load true 4 (.t 3) (some 3), none⟩, ⟨some 12, .call 28 [(.t 11)], none⟩, ⟨some 13, .not (.t 12), none⟩, ⟨some 14, .mv (.t 13), none⟩, ⟨some 15, .fld 0 (.t 3), some (14, false)⟩, ⟨some 16, .load true 2 (.t 15) (some 3), some (14, false)⟩, ⟨some 17, .call 24 [(.t 16)], some (14, false)⟩, ⟨some 18, .load true 2 (.t 5) (some 5), some (14, false)⟩, ⟨some 19, .call 34 [(.t 17), (.t 18)], some (14, false)⟩, ⟨some 20, .load true 2 (.t 4) (some 4), some (14, false)⟩, ⟨some 21, .fld 2 (.t 3), some (14, false)⟩, ⟨some 22, .load true 2 (.t 21) (some 3), some (14, false)⟩, ⟨some 23, .call 24 [(.t 22)], some (14, false)⟩, ⟨some 24, .call 34 [(.t 20), (.t 23)], some (14, false)⟩, ⟨some 25, .call 30 [(.t 19), (.t 24)], some (14, false)⟩, ⟨some 26, .not (.t 25), some (14, false)⟩, ⟨some 27, .pick (.t 14) (.k (.bool true)) (.t 26), none⟩])
 (.cond (.t 27)
 (.seq (.region [⟨some 6, .mv (.k (.bool false)), none⟩])
 .ret)
 .skip))
 (.seq (.region [⟨some 28, .fld 2 (.t 3), none⟩, ⟨some 29, .load true 2 (.t 28) (some 3), none⟩, ⟨some 30, .call 24 [(.t 29)], none⟩, ⟨some 31, .fld 0 (.t 3), none⟩, ⟨some 32, .load true 2 (.t 31) (some 3), none⟩, ⟨some 33, .call 24 [(.t 32)], none⟩, ⟨some 7, .alloc [.v (.bool false), .nil .i64], none⟩, ⟨some 8, .alloc [.v (.bool false), .nil .i64], none⟩, ⟨none, .store 2 (.t 7) (.t 30) 7, none⟩, ⟨none, .store 2 (.t 8) (.t 33) 8, none⟩])
 (.seq (.block 0
 (.loop epactlaw03_is.l1))
 (.seq (.region [⟨some 46, .load true 2 (.t 8) (some 8), none⟩, ⟨some 47, .call 25 [(.k (.int .i64 1))], none⟩, ⟨some 48, .call 30 [(.t 46), (.t 47)], none⟩, ⟨some 49, .mv (.t 48), none⟩, ⟨some 50, .load true 2 (.t 8) (some 8), some (49, false)⟩, ⟨some 51, .call 25 [(.k (.int .i64 (-1)))], some (49, false)⟩, ⟨some 52, .call 30 [(.t 50), (.t 51)], some (49, false)⟩, ⟨some 53, .pick (.t 49) (.k (.bool true)) (.t 52), none⟩, ⟨some 6, .mv (.t 53), none⟩])
 .ret)))))⟩
theorem epactlaw03_is.chk : chkFn Try.prog Try.f27 epactlaw03_is.c = true := by kernel_rfl
theorem epactlaw03_is.ent : ∀ args w, (callFunc 27 args).run Try.prog w = .ok (.enter 27 args) w := enters Try.func27 (by kernel_rfl) (by kernel_rfl)

/-- epact/epactlaw03.good -/
def epactlaw03_good.c : SF := ⟨9, [.t 2],
 (.seq (.region [⟨some 1, .box (.t 0), none⟩, ⟨some 2, .mv (.k (.bool false)), none⟩])
 (.seq (.region [⟨some 3, .fld 2 (.t 1), none⟩, ⟨some 4, .load true 2 (.t 3) (some 1), none⟩, ⟨some 5, .call 24 [(.t 4)], none⟩, ⟨some 6, .call 25 [(.k (.int .i64 0))], none⟩, ⟨some 7, .call 23 [(.t 5), (.t 6)], none⟩, ⟨some 8, .bin .gtr (.t 7) (.k (.int .i64 0)), none⟩, ⟨some 2, .mv (.t 8), none⟩])
 .ret))⟩
theorem epactlaw03_good.chk : chkFn Try.prog Try.f28 epactlaw03_good.c = true := by kernel_rfl
theorem epactlaw03_good.ent : ∀ args w, (callFunc 28 args).run Try.prog w = .ok (.enter 28 args) w := enters Try.func28 (by kernel_rfl) (by kernel_rfl)

/-- epact/epactref01.Div -/
def epactref01_Div.l1 : SC :=
 (.seq (.seq (.region [⟨some 19, .mv (.t 8), none⟩, ⟨some 20, .bin .geq (.t 19) (.k (.int .i64 0)), none⟩])
 (.cond (.t 20)
 .skip
 (.exit 0)))
 (.seq (.block 1
 (.seq (.region [⟨some 23, .fld 1 (.t 2), none⟩, ⟨some 24, .load false 1 (.t 23) (some 2), none⟩, ⟨some 25, .mv (.t 8), none⟩, ⟨some 26, .idx 1 (.t 24) (.t 25), none⟩, ⟨some 27, .load false 1 (.t 26) none, none⟩, ⟨some 28, .bldS ⟨3, 1, some .i64⟩ [.v (.int .i64 0)] 1 [(0, 1, (.t 27))], none⟩, ⟨some 29, .mv (.t 7), none⟩, ⟨some 30, .app ⟨3, 1, some .i64⟩ (.t 28) (.t 29), none⟩, ⟨some 31, .callR 79 [(.t 30)], none⟩, ⟨some 7, .mv (.t 31), none⟩])
 (.seq (.region [⟨some 32, .mv (.t 6), none⟩, ⟨some 33, .mv (.t 8), none⟩, ⟨some 34, .mv (.t 7), none⟩, ⟨some 35, .fld 1 (.t 3), none⟩, ⟨some 36, .load false 1 (.t 35) (some 3), none⟩, ⟨some 37, .call 80 [(.t 34), (.t 36)], none⟩, ⟨some 38, .idx 1 (.t 32) (.t 33), none⟩, ⟨none, .store 1 (.t 38) (.t 37) 14, none⟩])
 (.region [⟨some 39, .mv (.t 7), none⟩, ⟨some 40, .fld 1 (.t 3), none⟩, ⟨some 41, .load false 1 (.t 40) (some 3), none⟩, ⟨some 42, .build [.v (.bool false), .nil .i64] [(1, 1, (.t 41))], none⟩, ⟨some 43, .mv (.t 6), none⟩, ⟨some 44, .mv (.t 8), none⟩, ⟨some 45, .idx 1 (.t 43) (.t 44), none⟩, ⟨some 46, .load false 1 (.t 45) (some 14), none⟩, ⟨some 47, .cvt .u64 (.t 46), none⟩, ⟨some 48, .call 76 [(.t 47)], none⟩, ⟨some 49, .call 34 [(.t 42), (.t 48)], none⟩, ⟨some 50, .part false 1 1 (.t 49), none⟩, ⟨some 51, .call 81 [(.t 39), (.t 50)], none⟩, ⟨some 7, .mv (.t 51), none⟩]))))
 (.region [⟨some 21, .mv (.t 8), none⟩, ⟨some 22, .bin .sub (.t 21) (.k (.int .i64 1)), none⟩, ⟨some 8, .mv (.t 22), none⟩])))
def epactref01_Div.c : SF := ⟨75, [.c 4 true 2, .c 5 true 2],
 (.seq (.region [⟨some 2, .box (.t 0), none⟩, ⟨some 3, .box (.t 1), none⟩, ⟨some 4, .alloc [.v (.bool false), .nil .i64], none⟩, ⟨some 5, .alloc [.v (.bool false), .nil .i64], none⟩])
 (.seq (.region [⟨some 11, .fld 1 (.t 2), none⟩, ⟨some 12, .load false 1 (.t 11) (some 2), none⟩, ⟨some 13, .len (.t 12), none⟩, ⟨some 14, .mkS ⟨3, 1, some .i64⟩ (.int .i64 0) (.t 13), none⟩, ⟨some 6, .mv (.t 14), none⟩])
 (.seq (.region [⟨some 7, .mv (.nil .i64), none⟩])
 (.seq (.seq (.region [⟨some 15, .fld 1 (.t 2), none⟩, ⟨some 16, .load false 1 (.t 15) (some 2), none⟩, ⟨some 17, .len (.t 16), none⟩, ⟨some 18, .bin .sub (.t 17) (.k (.int .i64 1)), none⟩, ⟨some 8, .mv (.t 18), none⟩])
 (.block 0
 (.loop epactref01_Div.l1)))
 (.seq (.region [⟨some 52, .mv (.t 6), none⟩, ⟨some 53, .callR 79 [(.t 52)], none⟩, ⟨some 54, .build [.v (.bool false), .nil .i64] [(1, 1, (.t 53))], none⟩, ⟨some 55, .mv (.t 7), none⟩, ⟨some 56, .build [.v (.bool false), .nil .i64] [(1, 1, (.t 55))], none⟩, ⟨some 9, .alloc [.v (.bool false), .nil .i64], none⟩, ⟨some 10, .alloc [.v (.bool false), .nil .i64], none⟩, ⟨none, .store 2 (.t 9) (.t 54) 9, none⟩, ⟨none, .store 2 (.t 10) (.t 56) 10, none⟩])
 (.seq (.seq (.region [⟨some 57, .fld 0 (.t 2), none⟩, ⟨some 58, .load false 1 (.t 57) (some 2), none⟩, ⟨some 59, .not (.t 58), none⟩])
 (.cond (.t 59)
 (.seq (.region [⟨some 60, .load true 2 (.t 9) (some 9), none⟩, ⟨some 61, .load true 2 (.t 10) (some 10), none⟩, ⟨none, .store 2 (.t 4) (.t 60) 4, none⟩, ⟨none, .store 2 (.t 5) (.t 61) 5, none⟩])
 .ret)
 .skip))
 (.seq (.region [⟨some 62, .load true 2 (.t 9) (some 9), none⟩, ⟨some 63, .call 77 [(.t 62)], none⟩, ⟨none, .store 2 (.t 9) (.t 63) 9, none⟩])
 (.seq (.seq (.region [⟨some 64, .mv (.t 7), none⟩, ⟨some 65, .len (.t 64), none⟩, ⟨some 66, .bin .eql (.t 65) (.k (.int .i64 0)), none⟩])
 (.cond (.t 66)
 (.seq (.region [⟨some 67, .load true 2 (.t 9) (some 9), none⟩, ⟨some 68, .load true 2 (.t 10) (some 10), none⟩, ⟨none, .store 2 (.t 4) (.t 67) 4, none⟩, ⟨none, .store 2 (.t 5) (.t 68) 5, none⟩])
 .ret)
 .skip))
 (.seq (.region [⟨some 69, .load true 2 (.t 9) (some 9), none⟩, ⟨some 70, .call 76 [(.k (.int .u64 1))], none⟩, ⟨some 71, .call 47 [(.t 69), (.t 70)], none⟩, ⟨some 72, .load true 2 (.t 3) (some 3), none⟩, ⟨some 73, .load true 2 (.t 10) (some 10), none⟩, ⟨some 74, .call 47 [(.t 72), (.t 73)], none⟩, ⟨none, .store 2 (.t 4) (.t 71) 4, none⟩, ⟨none, .store 2 (.t 5) (.t 74) 5, none⟩])
 .ret)))))))))⟩
theorem epactref01_Div.chk : chkFn Try.prog Try.f29 epactref01_Div.c = true := by kernel_rfl
theorem epactref01_Div.ent : ∀ args w, (callFunc 29 args).run Try.prog w = .ok (.enter 29 args) w := enters Try.func29 (by kernel_rfl) (by kernel_rfl)

/-- epact/epactref01.Same -/
def epactref01_Same.c : SF := ⟨9, [.t 4],
 (.seq (.region [⟨some 2, .box (.t 0), none⟩, ⟨some 3, .box (.t 1), none⟩, ⟨some 4, .mv (.k (.bool false)), none⟩])
 (.seq (.region [⟨some 5, .load true 2 (.t 2) (some 2), none⟩, ⟨some 6, .load true 2 (.t 3) (some 3), none⟩, ⟨some 7, .call 23 [(.t 5), (.t 6)], none⟩, ⟨some 8, .bin .eql (.t 7) (.k (.int .i64 0)), none⟩, ⟨some 4, .mv (.t 8), none⟩])
 .ret))⟩
theorem epactref01_Same.chk : chkFn Try.prog Try.f30 epactref01_Same.c = true := by kernel_rfl
theorem epactref01_Same.ent : ∀ args w, (callFunc 30 args).run Try.prog w = .ok (.enter 30 args) w := enters Try.func30 (by kernel_rfl) (by kernel_rfl)

/-- epact/epactref01.Add -/
def epactref01_Add.c : SF := ⟨41, [.c 4 true 2],
 (.seq (.region [⟨some 2, .box (.t 0), none⟩, ⟨some 3, .box (.t 1), none⟩, ⟨some 4, .alloc [.v (.bool false), .nil .i64], none⟩])
 (.seq (.seq (.region [⟨some 6, .fld 0 (.t 2), none⟩, ⟨some 7, .load false 1 (.t 6) (some 2), none⟩, ⟨some 8, .fld 0 (.t 3), none⟩, ⟨some 9, .load false 1 (.t 8) (some 3), none⟩, ⟨some 10, .eqb false (.t 7) (.t 9), none⟩])
 (.cond (.t 10)
 (.seq (.region [⟨some 11, .fld 0 (.t 2), none⟩, ⟨some 12, .load false 1 (.t 11) (some 2), none⟩, ⟨some 13, .fld 1 (.t 2), none⟩, ⟨some 14, .load false 1 (.t 13) (some 2), none⟩, ⟨some 15, .fld 1 (.t 3), none⟩, ⟨some 16, .load false 1 (.t 15) (some 3), none⟩, ⟨some 17, .call 82 [(.t 14), (.t 16)], none⟩, ⟨some 18, .build [.v (.bool false), .nil .i64] [(0, 1, (.t 12)), (1, 1, (.t 17))], none⟩, ⟨none, .store 2 (.t 4) (.t 18) 4, none⟩])
 .ret)
 .skip))
 (.seq (.seq (.region [⟨some 19, .fld 1 (.t 2), none⟩, ⟨some 20, .load false 1 (.t 19) (some 2), none⟩, ⟨some 21, .fld 1 (.t 3), none⟩, ⟨some 22, .load false 1 (.t 21) (some 3), none⟩, ⟨some 23, .call 74 [(.t 20), (.t 22)], none⟩, ⟨some 24, .bin .lss (.t 23) (.k (.int .i64 0)), none⟩])
 (.cond (.t 24)
 (.region [⟨some 25, .load true 2 (.t 3) (some 3), none⟩, ⟨some 26, .load true 2 (.t 2) (some 2), none⟩, ⟨none, .store 2 (.t 2) (.t 25) 2, none⟩, ⟨none, .store 2 (.t 3) (.t 26) 3, none⟩])
 .skip))
 (.seq (.region [⟨some 27, .fld 1 (.t 2), none⟩, ⟨some 28, .load false 1 (.t 27) (some 2), none⟩, ⟨some 29, .fld 1 (.t 3), none⟩, ⟨some 30, .load false 1 (.t 29) (some 3), none⟩, ⟨some 31, .call 81 [(.t 28), (.t 30)], none⟩, ⟨some 5, .mv (.t 31), none⟩])
 (.seq (.region [⟨some 32, .fld 0 (.t 2), none⟩, ⟨some 33, .load false 1 (.t 32) (some 2), none⟩, ⟨some 34, .mv (.t 33), none⟩, ⟨some 35, .mv (.t 5), some (34, true)⟩, ⟨some 36, .len (.t 35), some (34, true)⟩, ⟨some 37, .bin .gtr (.t 36) (.k (.int .i64 0)), some (34, true)⟩, ⟨some 38, .pick (.t 34) (.t 37) (.k (.bool false)), none⟩, ⟨some 39, .mv (.t 5), none⟩, ⟨some 40, .build [.v (.bool false), .nil .i64] [(0, 1, (.t 38)), (1, 1, (.t 39))], none⟩, ⟨none, .store 2 (.t 4) (.t 40) 4, none⟩])
 .ret)))))⟩
theorem epactref01_Add.chk : chkFn Try.prog Try.f31 epactref01_Add.c = true := by kernel_rfl
theorem epactref01_Add.ent : ∀ args w, (callFunc 31 args).run Try.prog w = .ok (.enter 31 args) w := enters Try.func31 (by kernel_rfl) (by kernel_rfl)

/-- epact/ratio.Floor -/
def ratio_Floor.c : SF := ⟨16, [.c 2 true 2],
 (.seq (.region [⟨some 1, .box (.t 0), none⟩, ⟨some 2, .alloc [.v (.int .i64 0), .v (.int .u64 0)], none⟩])
 (.seq (.region [⟨some 7, .fld 0 (.t 1), none⟩, ⟨some 8, .load true 2 (.t 7) (some 1), none⟩, ⟨some 9, .fld 2 (.t 1), none⟩, ⟨some 10, .load true 2 (.t 9) (some 1), none⟩, ⟨some 11, .call 73 [(.t 8), (.t 10)], none⟩, ⟨some 6, .mv (.t 11), none⟩, ⟨some 12, .ext (.t 6) 0, none⟩, ⟨some 13, .ext (.t 6) 1, none⟩, ⟨some 14, .ext (.t 6) 2, none⟩, ⟨some 3, .alloc [.v (.int .i64 0), .v (.int .u64 0)], none⟩, ⟨some 4, .alloc [.v (.int .i64 0), .v (.int .u64 0)], none⟩, ⟨none, .store 2 (.t 3) (.t 12) 3, none⟩, ⟨none, .store 2 (.t 4) (.t 13) 4, none⟩, ⟨some 5, .mv (.t 14), none⟩])
 (.seq (.region [⟨some 15, .load true 2 (.t 3) (some 3), none⟩, ⟨none, .store 2 (.t 2) (.t 15) 2, none⟩])
 .ret)))⟩
theorem ratio_Floor.chk : chkFn Try.prog Try.f32 ratio_Floor.c = true := by kernel_rfl
theorem ratio_Floor.ent : ∀ args w, (callFunc 32 args).run Try.prog w = .ok (.enter 32 args) w := enters Try.func32 (by kernel_rfl) (by kernel_rfl)

/-- epact/ratio.Ceil -/
def ratio_Ceil.c : SF := ⟨25, [.c 2 true 2],
 (.seq (.region [⟨some 1, .box (.t 0), none⟩, ⟨some 2, .alloc [.v (.int .i64 0), .v (.int .u64 0)], none⟩])
 (.seq (.region [⟨some 7, .fld 0 (.t 1), none⟩, ⟨some 8, .load true 2 (.t 7) (some 1), none⟩, ⟨some 9, .fld 2 (.t 1), none⟩, ⟨some 10, .load true 2 (.t 9) (some 1), none⟩, ⟨some 11, .call 73 [(.t 8), (.t 10)], none⟩, ⟨some 6, .mv (.t 11), none⟩, ⟨some 12, .ext (.t 6) 0, none⟩, ⟨some 13, .ext (.t 6) 1, none⟩, ⟨some 14, .ext (.t 6) 2, none⟩, ⟨some 3, .alloc [.v (.int .i64 0), .v (.int .u64 0)], none⟩, ⟨some 4, .alloc [.v (.int .i64 0), .v (.int .u64 0)], none⟩, ⟨none, .store 2 (.t 3) (.t 12) 3, none⟩, ⟨none, .store 2 (.t 4) (.t 13) 4, none⟩, ⟨some 5, .mv (.t 14), none⟩])
 (.seq (.seq (.region [⟨some 15, .load true 2 (.t 4) (some 4), none⟩, ⟨some 16, .build [.v (.int .i64 0), .v (.int .u64 0)] [], none⟩, ⟨some 17, .eqs true [.i64, .u64] (.t 15) (.t 16), none⟩])
 (.cond (.t 17)
 (.region [⟨some 19, .load true 2 (.t 3) (some 3), none⟩, ⟨some 20, .call 78 [(.k (.int .i64 1))], none⟩, ⟨some 21, .call 83 [(.t 19), (.t 20)], none⟩, ⟨some 18, .mv (.t 21), none⟩, ⟨some 22, .ext (.t 18) 0, none⟩, ⟨some 23, .ext (.t 18) 1, none⟩, ⟨none, .store 2 (.t 3) (.t 22) 3, none⟩])
 .skip))
 (.seq (.region [⟨some 24, .load true 2 (.t 3) (some 3), none⟩, ⟨none, .store 2 (.t 2) (.t 24) 2, none⟩])
 .ret))))⟩
theorem ratio_Ceil.chk : chkFn Try.prog Try.f33 ratio_Ceil.c = true := by kernel_rfl
theorem ratio_Ceil.ent : ∀ args w, (callFunc 33 args).run Try.prog w = .ok (.enter 33 args) w := enters Try.func33 (by kernel_rfl) (by kernel_rfl)

/-- epact/epactref01.Mul -/
def epactref01_Mul.l1 : SC :=
 (.seq (.seq (.region [⟨some 25, .mv (.t 8), none⟩, ⟨some 26, .fld 1 (.t 3), none⟩, ⟨some 27, .load false 1 (.t 26) (some 3), none⟩, ⟨some 28, .len (.t 27), none⟩, ⟨some 29, .bin .lss (.t 25) (.t 28), none⟩])
 (.cond (.t 29)
 .skip
 (.exit 2)))
 (.seq (.block 3
 (.seq (.region [⟨some 32, .mv (.t 5), none⟩, ⟨some 33, .mv (.t 6), none⟩, ⟨some 34, .mv (.t 8), none⟩, ⟨some 35, .bin .add (.t 33) (.t 34), none⟩, ⟨some 36, .idx 1 (.t 32) (.t 35), none⟩, ⟨some 37, .load false 1 (.t 36) (some 17), none⟩, ⟨some 38, .fld 1 (.t 2), none⟩, ⟨some 39, .load false 1 (.t 38) (some 2), none⟩, ⟨some 40, .mv (.t 6), none⟩, ⟨some 41, .idx 1 (.t 39) (.t 40), none⟩, ⟨some 42, .load false 1 (.t 41) none, none⟩, ⟨some 43, .fld 1 (.t 3), none⟩, ⟨some 44, .load false 1 (.t 43) (some 3), none⟩, ⟨some 45, .mv (.t 8), none⟩, ⟨some 46, .idx 1 (.t 44) (.t 45), none⟩, ⟨some 47, .load false 1 (.t 46) none, none⟩, ⟨some 48, .bin .mul (.t 42) (.t 47), none⟩, ⟨some 49, .bin .add (.t 37) (.t 48), none⟩, ⟨some 50, .mv (.t 7), none⟩, ⟨some 51, .bin .add (.t 49) (.t 50), none⟩, ⟨some 9, .mv (.t 51), none⟩])
 (.seq (.region [⟨some 52, .mv (.t 5), none⟩, ⟨some 53, .mv (.t 6), none⟩, ⟨some 54, .mv (.t 8), none⟩, ⟨some 55, .bin .add (.t 53) (.t 54), none⟩, ⟨some 56, .mv (.t 9), none⟩, ⟨some 57, .bin .rem (.t 56) (.k (.int .i64 65536)), none⟩, ⟨some 58, .idx 1 (.t 52) (.t 55), none⟩, ⟨none, .store 1 (.t 58) (.t 57) 17, none⟩])
 (.region [⟨some 59, .mv (.t 9), none⟩, ⟨some 60, .bin .quo (.t 59) (.k (.int .i64 65536)), none⟩, ⟨some 7, .mv (.t 60), none⟩]))))
 (.region [⟨some 30, .mv (.t 8), none⟩, ⟨some 31, .bin .add (.t 30) (.k (.int .i64 1)), none⟩, ⟨some 8, .mv (.t 31), none⟩])))
def epactref01_Mul.l2 : SC :=
 (.seq (.seq (.region [⟨some 18, .mv (.t 6), none⟩, ⟨some 19, .fld 1 (.t 2), none⟩, ⟨some 20, .load false 1 (.t 19) (some 2), none⟩, ⟨some 21, .len (.t 20), none⟩, ⟨some 22, .bin .lss (.t 18) (.t 21), none⟩])
 (.cond (.t 22)
 .skip
 (.exit 0)))
 (.seq (.block 1
 (.seq (.region [⟨some 7, .mv (.k (.int .i64 0)), none⟩])
 (.seq (.seq (.region [⟨some 8, .mv (.k (.int .i64 0)), none⟩])
 (.block 2
 (.loop epactref01_Mul.l1)))
 (.region [⟨some 61, .mv (.t 5), none⟩, ⟨some 62, .mv (.t 6), none⟩, ⟨some 63, .fld 1 (.t 3), none⟩, ⟨some 64, .load false 1 (.t 63) (some 3), none⟩, ⟨some 65, .len (.t 64), none⟩, ⟨some 66, .bin .add (.t 62) (.t 65), none⟩, ⟨some 67, .mv (.t 7), none⟩, ⟨some 68, .idx 1 (.t 61) (.t 66), none⟩, ⟨none, .store 1 (.t 68) (.t 67) 17, none⟩]))))
 (.region [⟨some 23, .mv (.t 6), none⟩, ⟨some 24, .bin .add (.t 23) (.k (.int .i64 1)), none⟩, ⟨some 6, .mv (.t 24), none⟩])))
def epactref01_Mul.c : SF := ⟨83, [.c 4 true 2],
 (.seq (.region [⟨some 2, .box (.t 0), none⟩, ⟨some 3, .box (.t 1), none⟩, ⟨some 4, .alloc [.v (.bool false), .nil .i64], none⟩])
 (.seq (.region [⟨some 10, .fld 1 (.t 2), none⟩, ⟨some 11, .load false 1 (.t 10) (some 2), none⟩, ⟨some 12, .len (.t 11), none⟩, ⟨some 13, .fld 1 (.t 3), none⟩, ⟨some 14, .load false 1 (.t 13) (some 3), none⟩, ⟨some 15, .len (.t 14), none⟩, ⟨some 16, .bin .add (.t 12) (.t 15), none⟩, ⟨some 17, .mkS ⟨3, 1, some .i64⟩ (.int .i64 0) (.t 16), none⟩, ⟨some 5, .mv (.t 17), none⟩])
 (.seq (.seq (.region [⟨some 6, .mv (.k (.int .i64 0)), none⟩])
 (.block 0
 (.loop epactref01_Mul.l2)))
 (.seq (.region [⟨some 69, .mv (.t 5), none⟩, ⟨some 70, .callR 79 [(.t 69)], none⟩, ⟨some 5, .mv (.t 70), none⟩])
 (.seq (.region [⟨some 71, .fld 0 (.t 2), none⟩, ⟨some 72, .load false 1 (.t 71) (some 2), none⟩, ⟨some 73, .fld 0 (.t 3), none⟩, ⟨some 74, .load false 1 (.t 73) (some 3), none⟩, ⟨some 75, .eqb true (.t 72) (.t 74), none⟩, ⟨some 76, .mv (.t 75), none⟩, ⟨some 77, .mv (.t 5), some (76, true)⟩, ⟨some 78, .len (.t 77), some (76, true)⟩, ⟨some 79, .bin .gtr (.t 78) (.k (.int .i64 0)), some (76, true)⟩, ⟨some 80, .pick (.t 76) (.t 79) (.k (.bool false)), none⟩, ⟨some 81, .mv (.t 5), none⟩, ⟨some 82, .build [.v (.bool false), .nil .i64] [(0, 1, (.t 80)), (1, 1, (.t 81))], none⟩, ⟨none, .store 2 (.t 4) (.t 82) 4, none⟩])
 .ret)))))⟩
theorem epactref01_Mul.chk : chkFn Try.prog Try.f34 epactref01_Mul.c = true := by kernel_rfl
theorem epactref01_Mul.ent : ∀ args w, (callFunc 34 args).run Try.prog w = .ok (.enter 34 args) w := enters Try.func34 (by kernel_rfl) (by kernel_rfl)

/-- epact/ratio.Cmp -/
def ratio_Cmp.l1 : SC :=
 (.forget [6, 7, 9, 10, 12] (.seq (.block 1
 (.seq (.region [⟨some 16, .fld 0 (.t 2), none⟩, ⟨some 17, .load true 2 (.t 16) (some 2), none⟩, ⟨some 18, .fld 2 (.t 2), none⟩, ⟨some 19, .load true 2 (.t 18) (some 2), none⟩, ⟨some 20, .call 73 [(.t 17), (.t 19)], none⟩, ⟨some 15, .mv (.t 20), none⟩, ⟨some 21, .ext (.t 15) 0, none⟩, ⟨some 22, .ext (.t 15) 1, none⟩, ⟨some 23, .ext (.t 15) 2, none⟩, ⟨some 6, .alloc [.v (.int .i64 0), .v (.int .u64 0)], none⟩, ⟨some 7, .alloc [.v (.int .i64 0), .v (.int .u64 0)], none⟩, ⟨none, .store 2 (.t 6) (.t 21) 6, none⟩, ⟨none, .store 2 (.t 7) (.t 22) 7, none⟩, ⟨some 8, .mv (.t 23), none⟩])
 (.seq (.region [⟨some 25, .fld 0 (.t 3), none⟩, ⟨some 26, .load true 2 (.t 25) (some 3), none⟩, ⟨some 27, .fld 2 (.t 3), none⟩, ⟨some 28, .load true 2 (.t 27) (some 3), none⟩, ⟨some 29, .call 73 [(.t 26), (.t 28)], none⟩, ⟨some 24, .mv (.t 29), none⟩, ⟨some 30, .ext (.t 24) 0, none⟩, ⟨some 31, .ext (.t 24) 1, none⟩, ⟨some 32, .ext (.t 24) 2, none⟩, ⟨some 9, .alloc [.v (.int .i64 0), .v (.int .u64 0)], none⟩, ⟨some 10, .alloc [.v (.int .i64 0), .v (.int .u64 0)], none⟩, ⟨none, .store 2 (.t 9) (.t 30) 9, none⟩, ⟨none, .store 2 (.t 10) (.t 31) 10, none⟩, ⟨some 11, .mv (.t 32), none⟩])
 (.seq (.region [⟨some 33, .build [.v (.int .i64 0), .v (.int .u64 0)] [], none⟩, ⟨some 12, .alloc [.v (.int .i64 0), .v (.int .u64 0)], none⟩, ⟨none, .store 2 (.t 12) (.t 33) 12, none⟩])
 (.seq (.block 2
 (.seq (.region [⟨some 35, .load true 2 (.t 6) (some 6), none⟩, ⟨some 36, .load true 2 (.t 9) (some 9), none⟩, ⟨some 37, .eqs true [.i64, .u64] (.t 35) (.t 36), none⟩, ⟨some 34, .mv (.t 37), none⟩])
 (.cond (.t 34)
 (.seq (.region [⟨some 38, .mv (.t 5), none⟩, ⟨some 39, .load true 2 (.t 6) (some 6), none⟩, ⟨some 40, .load true 2 (.t 9) (some 9), none⟩, ⟨some 41, .call 71 [(.t 39), (.t 40)], none⟩, ⟨some 42, .bin .mul (.t 38) (.t 41), none⟩, ⟨some 4, .mv (.t 42), none⟩])
 .ret)
 (.seq (.region [⟨some 44, .load true 2 (.t 7) (some 7), none⟩, ⟨some 45, .load true 2 (.t 12) (some 12), none⟩, ⟨some 46, .eqs false [.i64, .u64] (.t 44) (.t 45), none⟩, ⟨some 47, .mv (.t 46), none⟩, ⟨some 48, .load true 2 (.t 10) (some 10), some (47, false)⟩, ⟨some 49, .load true 2 (.t 12) (some 12), some (47, false)⟩, ⟨some 50, .eqs false [.i64, .u64] (.t 48) (.t 49), some (47, false)⟩, ⟨some 51, .pick (.t 47) (.k (.bool true)) (.t 50), none⟩, ⟨some 43, .mv (.t 51), none⟩])
 (.cond (.t 43)
 (.seq (.region [⟨some 52, .mv (.t 5), none⟩, ⟨some 53, .load true 2 (.t 7) (some 7), none⟩, ⟨some 54, .load true 2 (.t 10) (some 10), none⟩, ⟨some 55, .call 71 [(.t 53), (.t 54)], none⟩, ⟨some 56, .bin .mul (.t 52) (.t 55), none⟩, ⟨some 4, .mv (.t 56), none⟩])
 .ret)
 .skip)))))
 (.region [⟨some 57, .fld 2 (.t 2), none⟩, ⟨some 58, .load true 2 (.t 57) (some 2), none⟩, ⟨some 59, .load true 2 (.t 7) (some 7), none⟩, ⟨some 60, .build [.v (.int .i64 0), .v (.int .u64 0), .v (.int .i64 0), .v (.int .u64 0)] [(0, 2, (.t 58)), (2, 2, (.t 59))], none⟩, ⟨some 61, .fld 2 (.t 3), none⟩, ⟨some 62, .load true 2 (.t 61) (some 3), none⟩, ⟨some 63, .load true 2 (.t 10) (some 10), none⟩, ⟨some 64, .build [.v (.int .i64 0), .v (.int .u64 0), .v (.int .i64 0), .v (.int .u64 0)] [(0, 2, (.t 62)), (2, 2, (.t 63))], none⟩, ⟨none, .store 4 (.t 2) (.t 60) 2, none⟩, ⟨none, .store 4 (.t 3) (.t 64) 3, none⟩]))))))
 (.region [⟨some 13, .mv (.t 5), none⟩, ⟨some 14, .neg (.t 13), none⟩, ⟨some 5, .mv (.t 14), none⟩])))
def ratio_Cmp.c : SF := ⟨65, [.t 4],
 (.seq (.region [⟨some 2, .box (.t 0), none⟩, ⟨some 3, .box (.t 1), none⟩, ⟨some 4, .mv (.k (.int .i64 0)), none⟩])
 (.seq (.region [⟨some 5, .mv (.k (.int .i64 1)), none⟩])
 (.block 0
 (.loop ratio_Cmp.l1))))⟩
theorem ratio_Cmp.chk : chkFn Try.prog Try.f35 ratio_Cmp.c = true := by kernel_rfl
theorem ratio_Cmp.ent : ∀ args w, (callFunc 35 args).run Try.prog w = .ok (.enter 35 args) w := enters Try.func35 (by kernel_rfl) (by kernel_rfl)

/-- epact/day.Join -/
def day_Join.c : SF := ⟨34, [.c 2 true 2, .t 3],
 (.seq (.region [⟨some 1, .box (.t 0), none⟩, ⟨some 2, .alloc [.v (.int .i64 0), .v (.int .u64 0)], none⟩, ⟨some 3, .mv (.k (.int .i64 0)), none⟩])
 (.seq (.seq (.region [⟨some 7, .load true 3 (.t 1) (some 1), none⟩, ⟨some 8, .call 84 [(.t 7)], none⟩, ⟨some 4, .mv (.t 8), none⟩])
 (.seq (.region [⟨some 9, .mv (.t 4), none⟩, ⟨some 10, .bin .neq (.t 9) (.k (.int .i64 0)), none⟩])
 (.cond (.t 10)
 (.seq (.region [⟨some 11, .build [.v (.int .i64 0), .v (.int .u64 0)] [], none⟩, ⟨some 12, .mv (.t 4), none⟩, ⟨none, .store 2 (.t 2) (.t 11) 2, none⟩, ⟨some 3, .mv (.t 12), none⟩])
 .ret)
 .skip)))
 (.seq (.region [⟨some 14, .fld 0 (.t 1), none⟩, ⟨some 15, .load false 1 (.t 14) (some 1), none⟩, ⟨some 16, .bin .mul (.t 15) (.k (.int .i64 86400)), none⟩, ⟨some 17, .fld 1 (.t 1), none⟩, ⟨some 18, .load false 1 (.t 17) (some 1), none⟩, ⟨some 19, .bin .add (.t 16) (.t 18), none⟩, ⟨some 20, .call 78 [(.t 19)], none⟩, ⟨some 21, .call 78 [(.k (.int .i64 1000000000000000000))], none⟩, ⟨some 22, .call 85 [(.t 20), (.t 21)], none⟩, ⟨some 13, .mv (.t 22), none⟩, ⟨some 23, .ext (.t 13) 0, none⟩, ⟨some 24, .ext (.t 13) 1, none⟩, ⟨some 5, .alloc [.v (.int .i64 0), .v (.int .u64 0)], none⟩, ⟨none, .store 2 (.t 5) (.t 23) 5, none⟩, ⟨some 6, .mv (.t 24), none⟩])
 (.seq (.region [⟨some 26, .load true 2 (.t 5) (some 5), none⟩, ⟨some 27, .fld 2 (.t 1), none⟩, ⟨some 28, .load false 1 (.t 27) (some 1), none⟩, ⟨some 29, .call 78 [(.t 28)], none⟩, ⟨some 30, .call 83 [(.t 26), (.t 29)], none⟩, ⟨some 25, .mv (.t 30), none⟩, ⟨some 31, .ext (.t 25) 0, none⟩, ⟨some 32, .ext (.t 25) 1, none⟩, ⟨none, .store 2 (.t 5) (.t 31) 5, none⟩])
 (.seq (.region [⟨some 33, .load true 2 (.t 5) (some 5), none⟩, ⟨none, .store 2 (.t 2) (.t 33) 2, none⟩, ⟨some 3, .mv (.k (.int .i64 0)), none⟩])
 .ret)))))⟩
theorem day_Join.chk : chkFn Try.prog Try.f36 day_Join.c = true := by kernel_rfl
theorem day_Join.ent : ∀ args w, (callFunc 36 args).run Try.prog w = .ok (.enter 36 args) w := enters Try.func36 (by kernel_rfl) (by kernel_rfl)

/-- epact/epactlaw07.want -/
def epactlaw07_want.c : SF := ⟨10, [.t 2],
 (.seq (.region [⟨some 1, .box (.t 0), none⟩, ⟨some 2, .mv (.k (.int .i64 0)), none⟩])
 (.seq (.seq (.region [⟨some 3, .load true 3 (.t 1) (some 1), none⟩, ⟨some 4, .call 48 [(.t 3)], none⟩, ⟨some 5, .not (.t 4), none⟩])
 (.cond (.t 5)
 (.seq (.region [⟨some 2, .mv (.k (.int .i64 1)), none⟩])
 .ret)
 .skip))
 (.seq (.seq (.region [⟨some 6, .fld 0 (.t 1), none⟩, ⟨some 7, .load false 1 (.t 6) (some 1), none⟩, ⟨some 8, .call 86 [(.t 7)], none⟩, ⟨some 9, .not (.t 8), none⟩])
 (.cond (.t 9)
 (.seq (.region [⟨some 2, .mv (.k (.int .i64 2)), none⟩])
 .ret)
 .skip))
 (.seq (.region [⟨some 2, .mv (.k (.int .i64 0)), none⟩])
 .ret))))⟩
theorem epactlaw07_want.chk : chkFn Try.prog Try.f37 epactlaw07_want.c = true := by kernel_rfl
theorem epactlaw07_want.ent : ∀ args w, (callFunc 37 args).run Try.prog w = .ok (.enter 37 args) w := enters Try.func37 (by kernel_rfl) (by kernel_rfl)

/-- epact/epactlaw07.answers -/
def epactlaw07_answers.c : SF := ⟨47, [.t 0],
 (.seq (.region [⟨some 0, .mv (.k (.bool false)), none⟩])
 (.seq (.region [⟨some 8, .build [.v (.int .i64 0), .v (.int .u64 0)] [(0, 1, (.k (.int .i64 (-1)))), (1, 1, (.k (.int .u64 18446744073709551615)))], none⟩, ⟨some 9, .call 39 [(.t 8)], none⟩, ⟨some 7, .mv (.t 9), none⟩, ⟨some 10, .ext (.t 7) 0, none⟩, ⟨some 11, .ext (.t 7) 1, none⟩, ⟨some 1, .alloc [.v (.int .i64 0), .v (.int .i64 0), .v (.int .i64 0)], none⟩, ⟨none, .store 3 (.t 1) (.t 10) 1, none⟩, ⟨some 2, .mv (.t 11), none⟩])
 (.seq (.region [⟨some 13, .build [.v (.int .i64 0), .v (.int .i64 0), .v (.int .i64 0)] [(1, 1, (.k (.int .i64 2))), (2, 1, (.k (.int .i64 3)))], none⟩, ⟨some 14, .call 36 [(.t 13)], none⟩, ⟨some 12, .mv (.t 14), none⟩, ⟨some 15, .ext (.t 12) 0, none⟩, ⟨some 16, .ext (.t 12) 1, none⟩, ⟨some 3, .alloc [.v (.int .i64 0), .v (.int .u64 0)], none⟩, ⟨none, .store 2 (.t 3) (.t 15) 3, none⟩, ⟨some 4, .mv (.t 16), none⟩])
 (.seq (.region [⟨some 18, .build [.v (.int .i64 0), .v (.int .i64 0), .v (.int .i64 0)] [(0, 1, (.k (.int .i64 51544))), (1, 1, (.k (.int .i64 43200)))], none⟩, ⟨some 19, .call 45 [(.t 18)], none⟩, ⟨some 17, .mv (.t 19), none⟩, ⟨some 20, .ext (.t 17) 0, none⟩, ⟨some 21, .ext (.t 17) 1, none⟩, ⟨some 5, .alloc [.v (.int .i64 0), .v (.int .i64 0), .v (.int .i64 0)], none⟩, ⟨none, .store 3 (.t 5) (.t 20) 5, none⟩, ⟨some 6, .mv (.t 21), none⟩])
 (.seq (.region [⟨some 22, .mv (.t 2), none⟩, ⟨some 23, .bin .eql (.t 22) (.k (.int .i64 0)), none⟩, ⟨some 24, .mv (.t 23), none⟩, ⟨some 25, .load true 3 (.t 1) (some 1), some (24, true)⟩, ⟨some 26, .build [.v (.int .i64 0), .v (.int .i64 0), .v (.int .i64 0)] [(0, 1, (.k (.int .i64 (-1)))), (1, 1, (.k (.int .i64 86399))), (2, 1, (.k (.int .i64 999999999999999999)))], some (24, true)⟩, ⟨some 27, .eqs false [.i64, .i64, .i64] (.t 25) (.t 26), some (24, true)⟩, ⟨some 28, .pick (.t 24) (.t 27) (.k (.bool false)), none⟩, ⟨some 29, .mv (.t 28), none⟩, ⟨some 30, .mv (.t 4), some (29, true)⟩, ⟨some 31, .bin .eql (.t 30) (.k (.int .i64 0)), some (29, true)⟩, ⟨some 32, .pick (.t 29) (.t 31) (.k (.bool false)), none⟩, ⟨some 33, .mv (.t 32), none⟩, ⟨some 34, .load true 2 (.t 3) (some 3), some (33, true)⟩, ⟨some 35, .build [.v (.int .i64 0), .v (.int .u64 0)] [(1, 1, (.k (.int .u64 2000000000000000003)))], some (33, true)⟩, ⟨some 36, .eqs false [.i64, .u64] (.t 34) (.t 35), some (33, true)⟩, ⟨some 37, .pick (.t 33) (.t 36) (.k (.bool false)), none⟩, ⟨some 38, .mv (.t 37), none⟩, ⟨some 39, .mv (.t 6), some (38, true)⟩, ⟨some 40, .bin .eql (.t 39) (.k (.int .i64 0)), some (38, true)⟩, ⟨some 41, .pick (.t 38) (.t 40) (.k (.bool false)), none⟩, ⟨some 42, .mv (.t 41), none⟩, ⟨some 43, .load true 3 (.t 5) (some 5), some (42, true)⟩, ⟨some 44, .build [.v (.int .i64 0), .v (.int .i64 0), .v (.int .i64 0)] [(0, 1, (.k (.int .i64 2451545)))], some (42, true)⟩, ⟨some 45, .eqs false [.i64, .i64, .i64] (.t 43) (.t 44), some (42, true)⟩, ⟨some 46, .pick (.t 42) (.t 45) (.k (.bool false)), none⟩, ⟨some 0, .mv (.t 46), none⟩])
 .ret)))))⟩
theorem epactlaw07_answers.chk : chkFn Try.prog Try.f38 epactlaw07_answers.c = true := by kernel_rfl
theorem epactlaw07_answers.ent : ∀ args w, (callFunc 38 args).run Try.prog w = .ok (.enter 38 args) w := enters Try.func38 (by kernel_rfl) (by kernel_rfl)

/-- epact/day.Split -/
def day_Split.c : SF := ⟨57, [.c 2 true 3, .t 3],
 (.seq (.region [⟨some 1, .box (.t 0), none⟩, ⟨some 2, .alloc [.v (.int .i64 0), .v (.int .i64 0), .v (.int .i64 0)], none⟩, ⟨some 3, .mv (.k (.int .i64 0)), none⟩])
 (.seq (.region [⟨some 17, .load true 2 (.t 1) (some 1), none⟩, ⟨some 18, .call 78 [(.k (.int .i64 1000000000000000000))], none⟩, ⟨some 19, .call 73 [(.t 17), (.t 18)], none⟩, ⟨some 16, .mv (.t 19), none⟩, ⟨some 20, .ext (.t 16) 0, none⟩, ⟨some 21, .ext (.t 16) 1, none⟩, ⟨some 22, .ext (.t 16) 2, none⟩, ⟨some 4, .alloc [.v (.int .i64 0), .v (.int .u64 0)], none⟩, ⟨some 5, .alloc [.v (.int .i64 0), .v (.int .u64 0)], none⟩, ⟨none, .store 2 (.t 4) (.t 20) 4, none⟩, ⟨none, .store 2 (.t 5) (.t 21) 5, none⟩, ⟨some 6, .mv (.t 22), none⟩])
 (.seq (.region [⟨some 24, .load true 2 (.t 4) (some 4), none⟩, ⟨some 25, .call 78 [(.k (.int .i64 86400))], none⟩, ⟨some 26, .call 73 [(.t 24), (.t 25)], none⟩, ⟨some 23, .mv (.t 26), none⟩, ⟨some 27, .ext (.t 23) 0, none⟩, ⟨some 28, .ext (.t 23) 1, none⟩, ⟨some 29, .ext (.t 23) 2, none⟩, ⟨some 7, .alloc [.v (.int .i64 0), .v (.int .u64 0)], none⟩, ⟨some 8, .alloc [.v (.int .i64 0), .v (.int .u64 0)], none⟩, ⟨none, .store 2 (.t 7) (.t 27) 7, none⟩, ⟨none, .store 2 (.t 8) (.t 28) 8, none⟩, ⟨some 9, .mv (.t 29), none⟩])
 (.seq (.region [⟨some 31, .load true 2 (.t 7) (some 7), none⟩, ⟨some 32, .call 87 [(.t 31)], none⟩, ⟨some 30, .mv (.t 32), none⟩, ⟨some 33, .ext (.t 30) 0, none⟩, ⟨some 34, .ext (.t 30) 1, none⟩, ⟨some 10, .mv (.t 33), none⟩, ⟨some 11, .mv (.t 34), none⟩])
 (.seq (.seq (.region [⟨some 35, .mv (.t 11), none⟩, ⟨some 36, .bin .neq (.t 35) (.k (.int .i64 0)), none⟩, ⟨some 37, .mv (.t 36), none⟩, ⟨some 38, .mv (.t 10), some (37, false)⟩, ⟨some 39, .call 88 [(.t 38)], some (37, false)⟩, ⟨some 40, .not (.t 39), some (37, false)⟩, ⟨some 41, .pick (.t 37) (.k (.bool true)) (.t 40), none⟩])
 (.cond (.t 41)
 (.seq (.region [⟨some 42, .build [.v (.int .i64 0), .v (.int .i64 0), .v (.int .i64 0)] [], none⟩, ⟨none, .store 3 (.t 2) (.t 42) 2, none⟩, ⟨some 3, .mv (.k (.int .i64 2)), none⟩])
 .ret)
 .skip))
 (.seq (.region [⟨some 44, .load true 2 (.t 8) (some 8), none⟩, ⟨some 45, .call 87 [(.t 44)], none⟩, ⟨some 43, .mv (.t 45), none⟩, ⟨some 46, .ext (.t 43) 0, none⟩, ⟨some 47, .ext (.t 43) 1, none⟩, ⟨some 12, .mv (.t 46), none⟩, ⟨some 13, .mv (.t 47), none⟩])
 (.seq (.region [⟨some 49, .load true 2 (.t 5) (some 5), none⟩, ⟨some 50, .call 87 [(.t 49)], none⟩, ⟨some 48, .mv (.t 50), none⟩, ⟨some 51, .ext (.t 48) 0, none⟩, ⟨some 52, .ext (.t 48) 1, none⟩, ⟨some 14, .mv (.t 51), none⟩, ⟨some 15, .mv (.t 52), none⟩])
 (.seq (.region [⟨some 53, .mv (.t 10), none⟩, ⟨some 54, .mv (.t 12), none⟩, ⟨some 55, .mv (.t 14), none⟩, ⟨some 56, .build [.v (.int .i64 0), .v (.int .i64 0), .v (.int .i64 0)] [(0, 1, (.t 53)), (1, 1, (.t 54)), (2, 1, (.t 55))], none⟩, ⟨none, .store 3 (.t 2) (.t 56) 2, none⟩, ⟨some 3, .mv (.k (.int .i64 0)), none⟩])
 .ret))))))))⟩
theorem day_Split.chk : chkFn Try.prog Try.f39 day_Split.c = true := by kernel_rfl
theorem day_Split.ent : ∀ args w, (callFunc 39 args).run Try.prog w = .ok (.enter 39 args) w := enters Try.func39 (by kernel_rfl) (by kernel_rfl)

/-- epact/epactref05.Join -/
def epactref05_Join.c : SF := ⟨20, [.c 2 true 2],
 (.seq (.region [⟨some 1, .box (.t 0), none⟩, ⟨some 2, .alloc [.v (.bool false), .nil .i64], none⟩])
 (.seq (.region [⟨some 4, .fld 0 (.t 1), none⟩, ⟨some 5, .load false 1 (.t 4) (some 1), none⟩, ⟨some 6, .call 25 [(.t 5)], none⟩, ⟨some 7, .call 25 [(.k (.int .i64 86400))], none⟩, ⟨some 8, .call 34 [(.t 6), (.t 7)], none⟩, ⟨some 9, .fld 1 (.t 1), none⟩, ⟨some 10, .load false 1 (.t 9) (some 1), none⟩, ⟨some 11, .call 25 [(.t 10)], none⟩, ⟨some 12, .call 31 [(.t 8), (.t 11)], none⟩, ⟨some 3, .alloc [.v (.bool false), .nil .i64], none⟩, ⟨none, .store 2 (.t 3) (.t 12) 3, none⟩])
 (.seq (.region [⟨some 13, .load true 2 (.t 3) (some 3), none⟩, ⟨some 14, .call 25 [(.k (.int .i64 1000000000000000000))], none⟩, ⟨some 15, .call 34 [(.t 13), (.t 14)], none⟩, ⟨some 16, .fld 2 (.t 1), none⟩, ⟨some 17, .load false 1 (.t 16) (some 1), none⟩, ⟨some 18, .call 25 [(.t 17)], none⟩, ⟨some 19, .call 31 [(.t 15), (.t 18)], none⟩, ⟨none, .store 2 (.t 2) (.t 19) 2, none⟩])
 .ret)))⟩
theorem epactref05_Join.chk : chkFn Try.prog Try.f40 epactref05_Join.c = true := by kernel_rfl
theorem epactref05_Join.ent : ∀ args w, (callFunc 40 args).run Try.prog w = .ok (.enter 40 args) w := enters Try.func40 (by kernel_rfl) (by kernel_rfl)

/-- epact/epactref05.Split -/
def epactref05_Split.c : SF := ⟨53, [.c 2 true 3, .t 3],
 (.seq (.region [⟨some 1, .box (.t 0), none⟩, ⟨some 2, .alloc [.v (.int .i64 0), .v (.int .i64 0), .v (.int .i64 0)], none⟩, ⟨some 3, .mv (.k (.bool false)), none⟩])
 (.seq (.region [⟨some 15, .load true 2 (.t 1) (some 1), none⟩, ⟨some 16, .call 25 [(.k (.int .i64 1000000000000000000))], none⟩, ⟨some 17, .call 29 [(.t 15), (.t 16)], none⟩, ⟨some 14, .mv (.t 17), none⟩, ⟨some 18, .ext (.t 14) 0, none⟩, ⟨some 19, .ext (.t 14) 1, none⟩, ⟨some 4, .alloc [.v (.bool false), .nil .i64], none⟩, ⟨some 5, .alloc [.v (.bool false), .nil .i64], none⟩, ⟨none, .store 2 (.t 4) (.t 18) 4, none⟩, ⟨none, .store 2 (.t 5) (.t 19) 5, none⟩])
 (.seq (.region [⟨some 21, .load true 2 (.t 4) (some 4), none⟩, ⟨some 22, .call 25 [(.k (.int .i64 86400))], none⟩, ⟨some 23, .call 29 [(.t 21), (.t 22)], none⟩, ⟨some 20, .mv (.t 23), none⟩, ⟨some 24, .ext (.t 20) 0, none⟩, ⟨some 25, .ext (.t 20) 1, none⟩, ⟨some 6, .alloc [.v (.bool false), .nil .i64], none⟩, ⟨some 7, .alloc [.v (.bool false), .nil .i64], none⟩, ⟨none, .store 2 (.t 6) (.t 24) 6, none⟩, ⟨none, .store 2 (.t 7) (.t 25) 7, none⟩])
 (.seq (.region [⟨some 27, .load true 2 (.t 6) (some 6), none⟩, ⟨some 28, .call 89 [(.t 27)], none⟩, ⟨some 26, .mv (.t 28), none⟩, ⟨some 29, .ext (.t 26) 0, none⟩, ⟨some 30, .ext (.t 26) 1, none⟩, ⟨some 8, .mv (.t 29), none⟩, ⟨some 9, .mv (.t 30), none⟩])
 (.seq (.seq (.region [⟨some 31, .mv (.t 9), none⟩, ⟨some 32, .not (.t 31), none⟩, ⟨some 33, .mv (.t 32), none⟩, ⟨some 34, .mv (.t 8), some (33, false)⟩, ⟨some 35, .call 86 [(.t 34)], some (33, false)⟩, ⟨some 36, .not (.t 35), some (33, false)⟩, ⟨some 37, .pick (.t 33) (.k (.bool true)) (.t 36), none⟩])
 (.cond (.t 37)
 (.seq (.region [⟨some 38, .build [.v (.int .i64 0), .v (.int .i64 0), .v (.int .i64 0)] [], none⟩, ⟨none, .store 3 (.t 2) (.t 38) 2, none⟩, ⟨some 3, .mv (.k (.bool false)), none⟩])
 .ret)
 .skip))
 (.seq (.region [⟨some 40, .load true 2 (.t 7) (some 7), none⟩, ⟨some 41, .call 89 [(.t 40)], none⟩, ⟨some 39, .mv (.t 41), none⟩, ⟨some 42, .ext (.t 39) 0, none⟩, ⟨some 43, .ext (.t 39) 1, none⟩, ⟨some 10, .mv (.t 42), none⟩, ⟨some 11, .mv (.t 43), none⟩])
 (.seq (.region [⟨some 45, .load true 2 (.t 5) (some 5), none⟩, ⟨some 46, .call 89 [(.t 45)], none⟩, ⟨some 44, .mv (.t 46), none⟩, ⟨some 47, .ext (.t 44) 0, none⟩, ⟨some 48, .ext (.t 44) 1, none⟩, ⟨some 12, .mv (.t 47), none⟩, ⟨some 13, .mv (.t 48), none⟩])
 (.seq (.region [⟨some 49, .mv (.t 8), none⟩, ⟨some 50, .mv (.t 10), none⟩, ⟨some 51, .mv (.t 12), none⟩, ⟨some 52, .build [.v (.int .i64 0), .v (.int .i64 0), .v (.int .i64 0)] [(0, 1, (.t 49)), (1, 1, (.t 50)), (2, 1, (.t 51))], none⟩, ⟨none, .store 3 (.t 2) (.t 52) 2, none⟩, ⟨some 3, .mv (.k (.bool true)), none⟩])
 .ret))))))))⟩
theorem epactref05_Split.chk : chkFn Try.prog Try.f41 epactref05_Split.c = true := by kernel_rfl
theorem epactref05_Split.ent : ∀ args w, (callFunc 41 args).run Try.prog w = .ok (.enter 41 args) w := enters Try.func41 (by kernel_rfl) (by kernel_rfl)

/-- epact/ratio.Add -/
def ratio_Add.c : SF := ⟨54, [.c 4 true 4, .t 5],
 (.seq (.region [⟨some 2, .box (.t 0), none⟩, ⟨some 3, .box (.t 1), none⟩, ⟨some 4, .alloc [.v (.int .i64 0), .v (.int .u64 0), .v (.int .i64 0), .v (.int .u64 0)], none⟩, ⟨some 5, .mv (.k (.int .i64 0)), none⟩])
 (.seq (.region [⟨some 10, .fld 0 (.t 2), none⟩, ⟨some 11, .load true 2 (.t 10) (some 2), none⟩, ⟨some 12, .fld 2 (.t 3), none⟩, ⟨some 13, .load true 2 (.t 12) (some 3), none⟩, ⟨some 14, .build [.v (.int .i64 0), .v (.int .u64 0), .v (.int .i64 0), .v (.int .u64 0)] [(0, 2, (.t 11)), (2, 2, (.t 13))], none⟩, ⟨some 15, .fld 0 (.t 3), none⟩, ⟨some 16, .load true 2 (.t 15) (some 3), none⟩, ⟨some 17, .fld 2 (.t 2), none⟩, ⟨some 18, .load true 2 (.t 17) (some 2), none⟩, ⟨some 19, .build [.v (.int .i64 0), .v (.int .u64 0), .v (.int .i64 0), .v (.int .u64 0)] [(0, 2, (.t 16)), (2, 2, (.t 18))], none⟩, ⟨some 20, .fld 2 (.t 2), none⟩, ⟨some 21, .load true 2 (.t 20) (some 2), none⟩, ⟨some 22, .fld 2 (.t 3), none⟩, ⟨some 23, .load true 2 (.t 22) (some 3), none⟩, ⟨some 24, .build [.v (.int .i64 0), .v (.int .u64 0), .v (.int .i64 0), .v (.int .u64 0)] [(0, 2, (.t 21)), (2, 2, (.t 23))], none⟩, ⟨some 25, .bldS ⟨105, 4, none⟩ [.v (.int .i64 0), .v (.int .u64 0), .v (.int .i64 0), .v (.int .u64 0), .v (.int .i64 0), .v (.int .u64 0), .v (.int .i64 0), .v (.int .u64 0), .v (.int .i64 0), .v (.int .u64 0), .v (.int .i64 0), .v (.int .u64 0)] 3 [(0, 4, (.t 14)), (4, 4, (.t 19)), (8, 4, (.t 24))], none⟩, ⟨some 26, .callR 90 [(.t 25)], none⟩, ⟨some 9, .mv (.t 26), none⟩, ⟨some 27, .ext (.t 9) 0, none⟩, ⟨some 28, .ext (.t 9) 1, none⟩, ⟨some 6, .mv (.t 27), none⟩, ⟨some 7, .mv (.t 28), none⟩])
 (.seq (.seq (.region [⟨some 29, .mv (.t 7), none⟩, ⟨some 30, .bin .neq (.t 29) (.k (.int .i64 0)), none⟩])
 (.cond (.t 30)
 (.seq (.region [⟨some 31, .build [.v (.int .i64 0), .v (.int .u64 0), .v (.int .i64 0), .v (.int .u64 0)] [], none⟩, ⟨some 32, .mv (.t 7), none⟩, ⟨none, .store 4 (.t 4) (.t 31) 4, none⟩, ⟨some 5, .mv (.t 32), none⟩])
 .ret)
 .skip))
 (.seq (.region [⟨some 34, .mv (.t 6), none⟩, ⟨some 35, .idx 2 (.t 34) (.k (.int .i64 0)), none⟩, ⟨some 36, .load true 2 (.t 35) none, none⟩, ⟨some 37, .mv (.t 6), none⟩, ⟨some 38, .idx 2 (.t 37) (.k (.int .i64 1)), none⟩, ⟨some 39, .load true 2 (.t 38) none, none⟩, ⟨some 40, .call 83 [(.t 36), (.t 39)], none⟩, ⟨some 33, .mv (.t 40), none⟩, ⟨some 41, .ext (.t 33) 0, none⟩, ⟨some 42, .ext (.t 33) 1, none⟩, ⟨some 8, .alloc [.v (.int .i64 0), .v (.int .u64 0)], none⟩, ⟨none, .store 2 (.t 8) (.t 41) 8, none⟩, ⟨some 7, .mv (.t 42), none⟩])
 (.seq (.seq (.region [⟨some 43, .mv (.t 7), none⟩, ⟨some 44, .bin .neq (.t 43) (.k (.int .i64 0)), none⟩])
 (.cond (.t 44)
 (.seq (.region [⟨some 45, .build [.v (.int .i64 0), .v (.int .u64 0), .v (.int .i64 0), .v (.int .u64 0)] [], none⟩, ⟨some 46, .mv (.t 7), none⟩, ⟨none, .store 4 (.t 4) (.t 45) 4, none⟩, ⟨some 5, .mv (.t 46), none⟩])
 .ret)
 .skip))
 (.seq (.region [⟨some 47, .load true 2 (.t 8) (some 8), none⟩, ⟨some 48, .mv (.t 6), none⟩, ⟨some 49, .idx 2 (.t 48) (.k (.int .i64 2)), none⟩, ⟨some 50, .load true 2 (.t 49) none, none⟩, ⟨some 51, .call 22 [(.t 47), (.t 50)], none⟩, ⟨some 52, .ext (.t 51) 0, none⟩, ⟨some 53, .ext (.t 51) 1, none⟩, ⟨none, .store 4 (.t 4) (.t 52) 4, none⟩, ⟨some 5, .mv (.t 53), none⟩])
 .ret))))))⟩
theorem ratio_Add.chk : chkFn Try.prog Try.f42 ratio_Add.c = true := by kernel_rfl
theorem ratio_Add.ent : ∀ args w, (callFunc 42 args).run Try.prog w = .ok (.enter 42 args) w := enters Try.func42 (by kernel_rfl) (by kernel_rfl)

/-- epact/ratio.Mul -/
def ratio_Mul.c : SF := ⟨36, [.c 4 true 4, .t 5],
 (.seq (.region [⟨some 2, .box (.t 0), none⟩, ⟨some 3, .box (.t 1), none⟩, ⟨some 4, .alloc [.v (.int .i64 0), .v (.int .u64 0), .v (.int .i64 0), .v (.int .u64 0)], none⟩, ⟨some 5, .mv (.k (.int .i64 0)), none⟩])
 (.seq (.region [⟨some 9, .fld 0 (.t 2), none⟩, ⟨some 10, .load true 2 (.t 9) (some 2), none⟩, ⟨some 11, .fld 0 (.t 3), none⟩, ⟨some 12, .load true 2 (.t 11) (some 3), none⟩, ⟨some 13, .build [.v (.int .i64 0), .v (.int .u64 0), .v (.int .i64 0), .v (.int .u64 0)] [(0, 2, (.t 10)), (2, 2, (.t 12))], none⟩, ⟨some 14, .fld 2 (.t 2), none⟩, ⟨some 15, .load true 2 (.t 14) (some 2), none⟩, ⟨some 16, .fld 2 (.t 3), none⟩, ⟨some 17, .load true 2 (.t 16) (some 3), none⟩, ⟨some 18, .build [.v (.int .i64 0), .v (.int .u64 0), .v (.int .i64 0), .v (.int .u64 0)] [(0, 2, (.t 15)), (2, 2, (.t 17))], none⟩, ⟨some 19, .bldS ⟨105, 4, none⟩ [.v (.int .i64 0), .v (.int .u64 0), .v (.int .i64 0), .v (.int .u64 0), .v (.int .i64 0), .v (.int .u64 0), .v (.int .i64 0), .v (.int .u64 0)] 2 [(0, 4, (.t 13)), (4, 4, (.t 18))], none⟩, ⟨some 20, .callR 90 [(.t 19)], none⟩, ⟨some 8, .mv (.t 20), none⟩, ⟨some 21, .ext (.t 8) 0, none⟩, ⟨some 22, .ext (.t 8) 1, none⟩, ⟨some 6, .mv (.t 21), none⟩, ⟨some 7, .mv (.t 22), none⟩])
 (.seq (.seq (.region [⟨some 23, .mv (.t 7), none⟩, ⟨some 24, .bin .neq (.t 23) (.k (.int .i64 0)), none⟩])
 (.cond (.t 24)
 (.seq (.region [⟨some 25, .build [.v (.int .i64 0), .v (.int .u64 0), .v (.int .i64 0), .v (.int .u64 0)] [], none⟩, ⟨some 26, .mv (.t 7), none⟩, ⟨none, .store 4 (.t 4) (.t 25) 4, none⟩, ⟨some 5, .mv (.t 26), none⟩])
 .ret)
 .skip))
 (.seq (.region [⟨some 27, .mv (.t 6), none⟩, ⟨some 28, .idx 2 (.t 27) (.k (.int .i64 0)), none⟩, ⟨some 29, .load true 2 (.t 28) none, none⟩, ⟨some 30, .mv (.t 6), none⟩, ⟨some 31, .idx 2 (.t 30) (.k (.int .i64 1)), none⟩, ⟨some 32, .load true 2 (.t 31) none, none⟩, ⟨some 33, .call 22 [(.t 29), (.t 32)], none⟩, ⟨some 34, .ext (.t 33) 0, none⟩, ⟨some 35, .ext (.t 33) 1, none⟩, ⟨none, .store 4 (.t 4) (.t 34) 4, none⟩, ⟨some 5, .mv (.t 35), none⟩])
 .ret))))⟩
theorem ratio_Mul.chk : chkFn Try.prog Try.f43 ratio_Mul.c = true := by kernel_rfl
theorem ratio_Mul.ent : ∀ args w, (callFunc 43 args).run Try.prog w = .ok (.enter 43 args) w := enters Try.func43 (by kernel_rfl) (by kernel_rfl)

/-- epact/epactlaw03.fit -/
def epactlaw03_fit.l1 : SC :=
 (.forget [4] (.seq (.seq (.region [⟨some 6, .mv (.t 3), none⟩, ⟨some 7, .mv (.t 0), none⟩, ⟨some 8, .len (.t 7), none⟩, ⟨some 9, .bin .lss (.t 6) (.t 8), none⟩])
 (.cond (.t 9)
 .skip
 (.exit 0)))
 (.seq (.block 1
 (.seq (.region [⟨some 13, .mv (.t 0), none⟩, ⟨some 14, .mv (.t 3), none⟩, ⟨some 15, .idx 2 (.t 13) (.t 14), none⟩, ⟨some 16, .load true 2 (.t 15) none, none⟩, ⟨some 17, .call 91 [(.t 16)], none⟩, ⟨some 12, .mv (.t 17), none⟩, ⟨some 18, .ext (.t 12) 0, none⟩, ⟨some 19, .ext (.t 12) 1, none⟩, ⟨some 4, .alloc [.v (.int .i64 0), .v (.int .u64 0)], none⟩, ⟨none, .store 2 (.t 4) (.t 18) 4, none⟩, ⟨some 5, .mv (.t 19), none⟩])
 (.seq (.region [⟨some 20, .mv (.t 5), none⟩, ⟨some 21, .not (.t 20), none⟩])
 (.cond (.t 21)
 (.seq (.region [⟨some 2, .mv (.k (.bool false)), none⟩])
 .ret)
 .skip))))
 (.region [⟨some 10, .mv (.t 3), none⟩, ⟨some 11, .bin .add (.t 10) (.k (.int .i64 1)), none⟩, ⟨some 3, .mv (.t 11), none⟩]))))
def epactlaw03_fit.c : SF := ⟨22, [.t 2],
 (.seq (.region [⟨some 2, .mv (.k (.bool false)), none⟩])
 (.seq (.seq (.region [⟨some 3, .mv (.k (.int .i64 0)), none⟩])
 (.block 0
 (.loop epactlaw03_fit.l1)))
 (.seq (.region [⟨some 2, .mv (.k (.bool true)), none⟩])
 .ret)))⟩
theorem epactlaw03_fit.chk : chkFn Try.prog Try.f44 epactlaw03_fit.c = true := by kernel_rfl
theorem epactlaw03_fit.ent : ∀ args w, (callFunc 44 args).run Try.prog w = .ok (.enter 44 args) w := enters Try.func44 (by kernel_rfl) (by kernel_rfl)

/-- epact/day.Julian -/
def day_Julian.c : SF := ⟨34, [.c 2 true 3, .t 3],
 (.seq (.region [⟨some 1, .box (.t 0), none⟩, ⟨some 2, .alloc [.v (.int .i64 0), .v (.int .i64 0), .v (.int .i64 0)], none⟩, ⟨some 3, .mv (.k (.int .i64 0)), none⟩])
 (.seq (.seq (.region [⟨some 6, .load true 3 (.t 1) (some 1), none⟩, ⟨some 7, .call 84 [(.t 6)], none⟩, ⟨some 4, .mv (.t 7), none⟩])
 (.seq (.region [⟨some 8, .mv (.t 4), none⟩, ⟨some 9, .bin .neq (.t 8) (.k (.int .i64 0)), none⟩])
 (.cond (.t 9)
 (.seq (.region [⟨some 10, .build [.v (.int .i64 0), .v (.int .i64 0), .v (.int .i64 0)] [], none⟩, ⟨some 11, .mv (.t 4), none⟩, ⟨none, .store 3 (.t 2) (.t 10) 2, none⟩, ⟨some 3, .mv (.t 11), none⟩])
 .ret)
 .skip)))
 (.seq (.region [⟨some 12, .fld 0 (.t 1), none⟩, ⟨some 13, .load false 1 (.t 12) (some 1), none⟩, ⟨some 14, .bin .add (.t 13) (.k (.int .i64 2400001)), none⟩, ⟨some 15, .bin .sub (.t 14) (.k (.int .i64 1)), none⟩, ⟨some 16, .fld 1 (.t 1), none⟩, ⟨some 17, .load false 1 (.t 16) (some 1), none⟩, ⟨some 18, .bin .add (.t 17) (.k (.int .i64 43200)), none⟩, ⟨some 19, .fld 2 (.t 1), none⟩, ⟨some 20, .load false 1 (.t 19) (some 1), none⟩, ⟨some 21, .build [.v (.int .i64 0), .v (.int .i64 0), .v (.int .i64 0)] [(0, 1, (.t 15)), (1, 1, (.t 18)), (2, 1, (.t 20))], none⟩, ⟨some 5, .alloc [.v (.int .i64 0), .v (.int .i64 0), .v (.int .i64 0)], none⟩, ⟨none, .store 3 (.t 5) (.t 21) 5, none⟩])
 (.seq (.seq (.region [⟨some 22, .fld 1 (.t 5), none⟩, ⟨some 23, .load false 1 (.t 22) (some 5), none⟩, ⟨some 24, .bin .geq (.t 23) (.k (.int .i64 86400)), none⟩])
 (.cond (.t 24)
 (.region [⟨some 25, .fld 0 (.t 5), none⟩, ⟨some 26, .load false 1 (.t 25) (some 5), none⟩, ⟨some 27, .bin .add (.t 26) (.k (.int .i64 1)), none⟩, ⟨some 28, .fld 1 (.t 5), none⟩, ⟨some 29, .load false 1 (.t 28) (some 5), none⟩, ⟨some 30, .bin .sub (.t 29) (.k (.int .i64 86400)), none⟩, ⟨some 31, .fld 0 (.t 5), none⟩, ⟨none, .store 1 (.t 31) (.t 27) 5, none⟩, ⟨some 32, .fld 1 (.t 5), none⟩, ⟨none, .store 1 (.t 32) (.t 30) 5, none⟩])
 .skip))
 (.seq (.region [⟨some 33, .load true 3 (.t 5) (some 5), none⟩, ⟨none, .store 3 (.t 2) (.t 33) 2, none⟩, ⟨some 3, .mv (.k (.int .i64 0)), none⟩])
 .ret)))))⟩
theorem day_Julian.chk : chkFn Try.prog Try.f45 day_Julian.c = true := by kernel_rfl
theorem day_Julian.ent : ∀ args w, (callFunc 45 args).run Try.prog w = .ok (.enter 45 args) w := enters Try.func45 (by kernel_rfl) (by kernel_rfl)

/-- epact/day.Civil -/
def day_Civil.c : SF := ⟨44, [.c 2 true 3, .t 3],
 (.seq (.region [⟨some 1, .box (.t 0), none⟩, ⟨some 2, .alloc [.v (.int .i64 0), .v (.int .i64 0), .v (.int .i64 0)], none⟩, ⟨some 3, .mv (.k (.int .i64 0)), none⟩])
 (.seq (.seq (.region [⟨some 5, .load true 3 (.t 1) (some 1), none⟩, ⟨some 6, .call 92 [(.t 5)], none⟩, ⟨some 7, .not (.t 6), none⟩])
 (.cond (.t 7)
 (.seq (.region [⟨some 8, .build [.v (.int .i64 0), .v (.int .i64 0), .v (.int .i64 0)] [], none⟩, ⟨none, .store 3 (.t 2) (.t 8) 2, none⟩, ⟨some 3, .mv (.k (.int .i64 1)), none⟩])
 .ret)
 .skip))
 (.seq (.seq (.region [⟨some 9, .fld 0 (.t 1), none⟩, ⟨some 10, .load false 1 (.t 9) (some 1), none⟩, ⟨some 11, .bin .lss (.t 10) (.k (.int .i64 (-2199023255552))), none⟩, ⟨some 12, .mv (.t 11), none⟩, ⟨some 13, .fld 0 (.t 1), some (12, false)⟩, ⟨some 14, .load false 1 (.t 13) (some 1), some (12, false)⟩, ⟨some 15, .bin .gtr (.t 14) (.k (.int .i64 2199023255552)), some (12, false)⟩, ⟨some 16, .pick (.t 12) (.k (.bool true)) (.t 15), none⟩])
 (.cond (.t 16)
 (.seq (.region [⟨some 17, .build [.v (.int .i64 0), .v (.int .i64 0), .v (.int .i64 0)] [], none⟩, ⟨none, .store 3 (.t 2) (.t 17) 2, none⟩, ⟨some 3, .mv (.k (.int .i64 2)), none⟩])
 .ret)
 .skip))
 (.seq (.region [⟨some 18, .fld 0 (.t 1), none⟩, ⟨some 19, .load false 1 (.t 18) (some 1), none⟩, ⟨some 20, .bin .sub (.t 19) (.k (.int .i64 2400001)), none⟩, ⟨some 21, .fld 1 (.t 1), none⟩, ⟨some 22, .load false 1 (.t 21) (some 1), none⟩, ⟨some 23, .bin .add (.t 22) (.k (.int .i64 43200)), none⟩, ⟨some 24, .fld 2 (.t 1), none⟩, ⟨some 25, .load false 1 (.t 24) (some 1), none⟩, ⟨some 26, .build [.v (.int .i64 0), .v (.int .i64 0), .v (.int .i64 0)] [(0, 1, (.t 20)), (1, 1, (.t 23)), (2, 1, (.t 25))], none⟩, ⟨some 4, .alloc [.v (.int .i64 0), .v (.int .i64 0), .v (.int .i64 0)], none⟩, ⟨none, .store 3 (.t 4) (.t 26) 4, none⟩])
 (.seq (.seq (.region [⟨some 27, .fld 1 (.t 4), none⟩, ⟨some 28, .load false 1 (.t 27) (some 4), none⟩, ⟨some 29, .bin .geq (.t 28) (.k (.int .i64 86400)), none⟩])
 (.cond (.t 29)
 (.region [⟨some 30, .fld 0 (.t 4), none⟩, ⟨some 31, .load false 1 (.t 30) (some 4), none⟩, ⟨some 32, .bin .add (.t 31) (.k (.int .i64 1)), none⟩, ⟨some 33, .fld 1 (.t 4), none⟩, ⟨some 34, .load false 1 (.t 33) (some 4), none⟩, ⟨some 35, .bin .sub (.t 34) (.k (.int .i64 86400)), none⟩, ⟨some 36, .fld 0 (.t 4), none⟩, ⟨none, .store 1 (.t 36) (.t 32) 4, none⟩, ⟨some 37, .fld 1 (.t 4), none⟩, ⟨none, .store 1 (.t 37) (.t 35) 4, none⟩])
 .skip))
 (.seq (.seq (.region [⟨some 38, .fld 0 (.t 4), none⟩, ⟨some 39, .load false 1 (.t 38) (some 4), none⟩, ⟨some 40, .call 88 [(.t 39)], none⟩, ⟨some 41, .not (.t 40), none⟩])
 (.cond (.t 41)
 (.seq (.region [⟨some 42, .build [.v (.int .i64 0), .v (.int .i64 0), .v (.int .i64 0)] [], none⟩, ⟨none, .store 3 (.t 2) (.t 42) 2, none⟩, ⟨some 3, .mv (.k (.int .i64 2)), none⟩])
 .ret)
 .skip))
 (.seq (.region [⟨some 43, .load true 3 (.t 4) (some 4), none⟩, ⟨none, .store 3 (.t 2) (.t 43) 2, none⟩, ⟨some 3, .mv (.k (.int .i64 0)), none⟩])
 .ret)))))))⟩
theorem day_Civil.chk : chkFn Try.prog Try.f46 day_Civil.c = true := by kernel_rfl
theorem day_Civil.ent : ∀ args w, (callFunc 46 args).run Try.prog w = .ok (.enter 46 args) w := enters Try.func46 (by kernel_rfl) (by kernel_rfl)

/-- epact/epactref01.Sub -/
def epactref01_Sub.c : SF := ⟨9, [.c 4 true 2],
 (.seq (.region [⟨some 2, .box (.t 0), none⟩, ⟨some 3, .box (.t 1), none⟩, ⟨some 4, .alloc [.v (.bool false), .nil .i64], none⟩])
 (.seq (.region [⟨some 5, .load true 2 (.t 2) (some 2), none⟩, ⟨some 6, .load true 2 (.t 3) (some 3), none⟩, ⟨some 7, .call 77 [(.t 6)], none⟩, ⟨some 8, .call 31 [(.t 5), (.t 7)], none⟩, ⟨none, .store 2 (.t 4) (.t 8) 4, none⟩])
 .ret))⟩
theorem epactref01_Sub.chk : chkFn Try.prog Try.f47 epactref01_Sub.c = true := by kernel_rfl
theorem epactref01_Sub.ent : ∀ args w, (callFunc 47 args).run Try.prog w = .ok (.enter 47 args) w := enters Try.func47 (by kernel_rfl) (by kernel_rfl)

/-- epact/epactref05.Plain -/
def epactref05_Plain.c : SF := ⟨21, [.t 2],
 (.seq (.region [⟨some 1, .box (.t 0), none⟩, ⟨some 2, .mv (.k (.bool false)), none⟩])
 (.seq (.region [⟨some 3, .fld 1 (.t 1), none⟩, ⟨some 4, .load false 1 (.t 3) (some 1), none⟩, ⟨some 5, .bin .geq (.t 4) (.k (.int .i64 0)), none⟩, ⟨some 6, .mv (.t 5), none⟩, ⟨some 7, .fld 1 (.t 1), some (6, true)⟩, ⟨some 8, .load false 1 (.t 7) (some 1), some (6, true)⟩, ⟨some 9, .bin .lss (.t 8) (.k (.int .i64 86400)), some (6, true)⟩, ⟨some 10, .pick (.t 6) (.t 9) (.k (.bool false)), none⟩, ⟨some 11, .mv (.t 10), none⟩, ⟨some 12, .fld 2 (.t 1), some (11, true)⟩, ⟨some 13, .load false 1 (.t 12) (some 1), some (11, true)⟩, ⟨some 14, .bin .geq (.t 13) (.k (.int .i64 0)), some (11, true)⟩, ⟨some 15, .pick (.t 11) (.t 14) (.k (.bool false)), none⟩, ⟨some 16, .mv (.t 15), none⟩, ⟨some 17, .fld 2 (.t 1), some (16, true)⟩, ⟨some 18, .load false 1 (.t 17) (some 1), some (16, true)⟩, ⟨some 19, .bin .lss (.t 18) (.k (.int .i64 1000000000000000000)), some (16, true)⟩, ⟨some 20, .pick (.t 16) (.t 19) (.k (.bool false)), none⟩, ⟨some 2, .mv (.t 20), none⟩])
 .ret))⟩
theorem epactref05_Plain.chk : chkFn Try.prog Try.f48 epactref05_Plain.c = true := by kernel_rfl
theorem epactref05_Plain.ent : ∀ args w, (callFunc 48 args).run Try.prog w = .ok (.enter 48 args) w := enters Try.func48 (by kernel_rfl) (by kernel_rfl)

/-- epact/frac.Encode -/
def frac_Encode.c : SF := ⟨24, [.c 4 true 2, .t 5],
 (.seq (.region [⟨some 4, .alloc [.v (.int .i64 0), .v (.int .u64 0)], none⟩, ⟨some 5, .mv (.k (.int .i64 0)), none⟩])
 (.seq (.seq (.region [⟨some 6, .mv (.t 0), none⟩, ⟨some 7, .bin .lss (.t 6) (.k (.int .i64 0)), none⟩, ⟨some 8, .mv (.t 7), none⟩, ⟨some 9, .mv (.t 0), some (8, false)⟩, ⟨some 10, .bin .geq (.t 9) (.k (.int .i64 1000000000000000000)), some (8, false)⟩, ⟨some 11, .pick (.t 8) (.k (.bool true)) (.t 10), none⟩, ⟨some 12, .mv (.t 11), none⟩, ⟨some 13, .mv (.t 1), some (12, false)⟩, ⟨some 14, .bin .lss (.t 13) (.k (.int .i64 0)), some (12, false)⟩, ⟨some 15, .pick (.t 12) (.k (.bool true)) (.t 14), none⟩, ⟨some 16, .mv (.t 15), none⟩, ⟨some 17, .mv (.t 1), some (16, false)⟩, ⟨some 18, .bin .gtr (.t 17) (.k (.int .i64 10)), some (16, false)⟩, ⟨some 19, .pick (.t 16) (.k (.bool true)) (.t 18), none⟩])
 (.cond (.t 19)
 (.seq (.region [⟨some 20, .build [.v (.int .i64 0), .v (.int .u64 0)] [], none⟩, ⟨none, .store 2 (.t 4) (.t 20) 4, none⟩, ⟨some 5, .mv (.k (.int .i64 1)), none⟩])
 .ret)
 .skip))
 (.seq (.region [⟨some 21, .mv (.t 0), none⟩, ⟨some 22, .mv (.t 1), none⟩, ⟨some 23, .call 93 [(.t 21), (.t 22)], none⟩, ⟨none, .store 2 (.t 4) (.t 23) 4, none⟩, ⟨some 5, .mv (.k (.int .i64 0)), none⟩])
 .ret)))⟩
theorem frac_Encode.chk : chkFn Try.prog Try.f49 frac_Encode.c = true := by kernel_rfl
theorem frac_Encode.ent : ∀ args w, (callFunc 49 args).run Try.prog w = .ok (.enter 49 args) w := enters Try.func49 (by kernel_rfl) (by kernel_rfl)

/-- epact/epactlaw19.answers -/
def epactlaw19_answers.c : SF := ⟨78, [.t 0],
 (.seq (.region [⟨some 0, .mv (.k (.bool false)), none⟩])
 (.seq (.region [⟨some 12, .call 49 [(.k (.int .i64 500000000000000000)), (.k (.int .i64 1))], none⟩, ⟨some 11, .mv (.t 12), none⟩, ⟨some 13, .ext (.t 11) 0, none⟩, ⟨some 14, .ext (.t 11) 1, none⟩, ⟨some 1, .alloc [.v (.int .i64 0), .v (.int .u64 0)], none⟩, ⟨none, .store 2 (.t 1) (.t 13) 1, none⟩, ⟨some 2, .mv (.t 14), none⟩])
 (.seq (.region [⟨some 16, .call 78 [(.k (.int .i64 1))], none⟩, ⟨some 17, .call 52 [(.t 16), (.k (.int .i64 4))], none⟩, ⟨some 15, .mv (.t 17), none⟩, ⟨some 18, .ext (.t 15) 0, none⟩, ⟨some 19, .ext (.t 15) 1, none⟩, ⟨some 3, .mv (.t 18), none⟩, ⟨some 4, .mv (.t 19), none⟩])
 (.seq (.region [⟨some 21, .call 78 [(.k (.int .i64 1))], none⟩, ⟨some 22, .call 52 [(.t 21), (.k (.int .i64 10))], none⟩, ⟨some 20, .mv (.t 22), none⟩, ⟨some 23, .ext (.t 20) 0, none⟩, ⟨some 24, .ext (.t 20) 1, none⟩, ⟨some 5, .mv (.t 23), none⟩, ⟨some 6, .mv (.t 24), none⟩])
 (.seq (.region [⟨some 26, .call 78 [(.k (.int .i64 258))], none⟩, ⟨some 27, .call 56 [(.t 26), (.k (.int .i64 3))], none⟩, ⟨some 25, .mv (.t 27), none⟩, ⟨some 28, .ext (.t 25) 0, none⟩, ⟨some 29, .ext (.t 25) 1, none⟩, ⟨some 7, .mv (.t 28), none⟩, ⟨some 8, .mv (.t 29), none⟩])
 (.seq (.region [⟨some 31, .bldS ⟨5, 1, some .u8⟩ [.v (.int .u8 0), .v (.int .u8 0)] 2 [(0, 1, (.k (.int .u8 1))), (1, 1, (.k (.int .u8 2)))], none⟩, ⟨some 32, .callR 57 [(.t 31)], none⟩, ⟨some 30, .mv (.t 32), none⟩, ⟨some 33, .ext (.t 30) 0, none⟩, ⟨some 34, .ext (.t 30) 1, none⟩, ⟨some 9, .alloc [.v (.int .i64 0), .v (.int .u64 0)], none⟩, ⟨none, .store 2 (.t 9) (.t 33) 9, none⟩, ⟨some 10, .mv (.t 34), none⟩])
 (.seq (.region [⟨some 35, .mv (.t 2), none⟩, ⟨some 36, .bin .eql (.t 35) (.k (.int .i64 0)), none⟩, ⟨some 37, .mv (.t 36), none⟩, ⟨some 38, .load true 2 (.t 1) (some 1), some (37, true)⟩, ⟨some 39, .call 78 [(.k (.int .i64 128))], some (37, true)⟩, ⟨some 40, .eqs false [.i64, .u64] (.t 38) (.t 39), some (37, true)⟩, ⟨some 41, .pick (.t 37) (.t 40) (.k (.bool false)), none⟩, ⟨some 42, .mv (.t 41), none⟩, ⟨some 43, .mv (.t 4), some (42, true)⟩, ⟨some 44, .bin .eql (.t 43) (.k (.int .i64 0)), some (42, true)⟩, ⟨some 45, .pick (.t 42) (.t 44) (.k (.bool false)), none⟩, ⟨some 46, .mv (.t 45), none⟩, ⟨some 47, .mv (.t 3), some (46, true)⟩, ⟨some 48, .bin .eql (.t 47) (.k (.int .i64 232830644)), some (46, true)⟩, ⟨some 49, .pick (.t 46) (.t 48) (.k (.bool false)), none⟩, ⟨some 50, .mv (.t 49), none⟩, ⟨some 51, .mv (.t 6), some (50, true)⟩, ⟨some 52, .bin .eql (.t 51) (.k (.int .i64 13)), some (50, true)⟩, ⟨some 53, .pick (.t 50) (.t 52) (.k (.bool false)), none⟩, ⟨some 54, .mv (.t 53), none⟩, ⟨some 55, .mv (.t 8), some (54, true)⟩, ⟨some 56, .bin .eql (.t 55) (.k (.int .i64 0)), some (54, true)⟩, ⟨some 57, .pick (.t 54) (.t 56) (.k (.bool false)), none⟩, ⟨some 58, .mv (.t 57), none⟩, ⟨some 59, .mv (.t 7), some (58, true)⟩, ⟨some 60, .len (.t 59), some (58, true)⟩, ⟨some 61, .bin .eql (.t 60) (.k (.int .i64 3)), some (58, true)⟩, ⟨some 62, .pick (.t 58) (.t 61) (.k (.bool false)), none⟩, ⟨some 63, .mv (.t 62), none⟩, ⟨some 64, .mv (.t 7), some (63, true)⟩, ⟨some 65, .idx 1 (.t 64) (.k (.int .i64 2)), some (63, true)⟩, ⟨some 66, .load false 1 (.t 65) none, some (63, true)⟩, ⟨some 67, .bin .eql (.t 66) (.k (.int .u8 2)), some (63, true)⟩, ⟨some 68, .pick (.t 63) (.t 67) (.k (.bool false)), none⟩, ⟨some 69, .mv (.t 68), none⟩, ⟨some 70, .mv (.t 10), some (69, true)⟩, ⟨some 71, .bin .eql (.t 70) (.k (.int .i64 0)), some (69, true)⟩, ⟨some 72, .pick (.t 69) (.t 71) (.k (.bool false)), none⟩, ⟨some 73, .mv (.t 72), none⟩, ⟨some 74, .load true 2 (.t 9) (some 9), some (73, true)⟩, ⟨some 75, .call 78 [(.k (.int .i64 258))], some (73, true)⟩, ⟨some 76, .eqs false [.i64, .u64] (.t 74) (.t 75), some (73, true)⟩, ⟨some 77, .pick (.t 73) (.t 76) (.k (.bool false)), none⟩, ⟨some 0, .mv (.t 77), none⟩])
 .ret)))))))⟩
theorem epactlaw19_answers.chk : chkFn Try.prog Try.f50 epactlaw19_answers.c = true := by kernel_rfl
theorem epactlaw19_answers.ent : ∀ args w, (callFunc 50 args).run Try.prog w = .ok (.enter 50 args) w := enters Try.func50 (by kernel_rfl) (by kernel_rfl)

/-- epact/epactref19.Code -/
def epactref19_Code.c : SF := ⟨18, [.c 4 true 2],
 (.seq (.region [⟨some 4, .alloc [.v (.bool false), .nil .i64], none⟩])
 (.seq (.region [⟨some 8, .mv (.t 0), none⟩, ⟨some 9, .call 25 [(.t 8)], none⟩, ⟨some 10, .mv (.t 1), none⟩, ⟨some 11, .call 54 [(.t 10)], none⟩, ⟨some 12, .call 34 [(.t 9), (.t 11)], none⟩, ⟨some 13, .call 25 [(.k (.int .i64 1000000000000000000))], none⟩, ⟨some 14, .call 29 [(.t 12), (.t 13)], none⟩, ⟨some 7, .mv (.t 14), none⟩, ⟨some 15, .ext (.t 7) 0, none⟩, ⟨some 16, .ext (.t 7) 1, none⟩, ⟨some 5, .alloc [.v (.bool false), .nil .i64], none⟩, ⟨some 6, .alloc [.v (.bool false), .nil .i64], none⟩, ⟨none, .store 2 (.t 5) (.t 15) 5, none⟩, ⟨none, .store 2 (.t 6) (.t 16) 6, none⟩])
 (.seq (.region [⟨some 17, .load true 2 (.t 5) (some 5), none⟩, ⟨none, .store 2 (.t 4) (.t 17) 4, none⟩])
 .ret)))⟩
theorem epactref19_Code.chk : chkFn Try.prog Try.f51 epactref19_Code.c = true := by kernel_rfl
theorem epactref19_Code.ent : ∀ args w, (callFunc 51 args).run Try.prog w = .ok (.enter 51 args) w := enters Try.func51 (by kernel_rfl) (by kernel_rfl)

/-- epact/frac.Decode -/
def frac_Decode.c : SF := ⟨53, [.t 4, .t 5],
 (.seq (.region [⟨some 2, .box (.t 0), none⟩, ⟨some 4, .mv (.k (.int .i64 0)), none⟩, ⟨some 5, .mv (.k (.int .i64 0)), none⟩])
 (.seq (.seq (.region [⟨some 11, .mv (.t 1), none⟩, ⟨some 12, .bin .lss (.t 11) (.k (.int .i64 0)), none⟩, ⟨some 13, .mv (.t 12), none⟩, ⟨some 14, .mv (.t 1), some (13, false)⟩, ⟨some 15, .bin .gtr (.t 14) (.k (.int .i64 10)), some (13, false)⟩, ⟨some 16, .pick (.t 13) (.k (.bool true)) (.t 15), none⟩, ⟨some 17, .mv (.t 16), none⟩, ⟨some 18, .load true 2 (.t 2) (some 2), some (17, false)⟩, ⟨some 19, .mv (.t 1), some (17, false)⟩, ⟨some 20, .call 95 [(.t 19)], some (17, false)⟩, ⟨some 21, .call 94 [(.t 18), (.t 20)], some (17, false)⟩, ⟨some 22, .not (.t 21), some (17, false)⟩, ⟨some 23, .pick (.t 17) (.k (.bool true)) (.t 22), none⟩])
 (.cond (.t 23)
 (.seq (.region [⟨some 4, .mv (.k (.int .i64 0)), none⟩, ⟨some 5, .mv (.k (.int .i64 1)), none⟩])
 .ret)
 .skip))
 (.seq (.region [⟨some 25, .load true 2 (.t 2) (some 2), none⟩, ⟨some 26, .call 78 [(.k (.int .i64 1000000000000000000))], none⟩, ⟨some 27, .mv (.t 1), none⟩, ⟨some 28, .call 95 [(.t 27)], none⟩, ⟨some 29, .call 96 [(.t 25), (.t 26), (.t 28)], none⟩, ⟨some 24, .mv (.t 29), none⟩, ⟨some 30, .ext (.t 24) 0, none⟩, ⟨some 31, .ext (.t 24) 1, none⟩, ⟨some 32, .ext (.t 24) 2, none⟩, ⟨some 6, .alloc [.v (.int .i64 0), .v (.int .u64 0)], none⟩, ⟨some 7, .alloc [.v (.int .i64 0), .v (.int .u64 0)], none⟩, ⟨none, .store 2 (.t 6) (.t 30) 6, none⟩, ⟨none, .store 2 (.t 7) (.t 31) 7, none⟩, ⟨some 8, .mv (.t 32), none⟩])
 (.seq (.region [⟨some 34, .load true 2 (.t 6) (some 6), none⟩, ⟨some 35, .call 87 [(.t 34)], none⟩, ⟨some 33, .mv (.t 35), none⟩, ⟨some 36, .ext (.t 33) 0, none⟩, ⟨some 37, .ext (.t 33) 1, none⟩, ⟨some 9, .mv (.t 36), none⟩, ⟨some 10, .mv (.t 37), none⟩])
 (.seq (.seq (.region [⟨some 38, .load true 2 (.t 7) (some 7), none⟩, ⟨some 39, .build [.v (.int .i64 0), .v (.int .u64 0)] [], none⟩, ⟨some 40, .eqs true [.i64, .u64] (.t 38) (.t 39), none⟩])
 (.cond (.t 40)
 (.region [⟨some 41, .mv (.t 9), none⟩, ⟨some 42, .bin .add (.t 41) (.k (.int .i64 1)), none⟩, ⟨some 9, .mv (.t 42), none⟩])
 .skip))
 (.seq (.seq (.region [⟨some 43, .mv (.t 9), none⟩, ⟨some 44, .bin .eql (.t 43) (.k (.int .i64 1000000000000000000)), none⟩, ⟨some 45, .mv (.t 44), none⟩, ⟨some 46, .mv (.t 9), some (45, false)⟩, ⟨some 47, .mv (.t 1), some (45, false)⟩, ⟨some 48, .call 93 [(.t 46), (.t 47)], some (45, false)⟩, ⟨some 49, .load true 2 (.t 2) (some 2), some (45, false)⟩, ⟨some 50, .eqs true [.i64, .u64] (.t 48) (.t 49), some (45, false)⟩, ⟨some 51, .pick (.t 45) (.k (.bool true)) (.t 50), none⟩])
 (.cond (.t 51)
 (.seq (.region [⟨some 4, .mv (.k (.int .i64 0)), none⟩, ⟨some 5, .mv (.k (.int .i64 13)), none⟩])
 .ret)
 .skip))
 (.seq (.region [⟨some 52, .mv (.t 9), none⟩, ⟨some 4, .mv (.t 52), none⟩, ⟨some 5, .mv (.k (.int .i64 0)), none⟩])
 .ret)))))))⟩
theorem frac_Decode.chk : chkFn Try.prog Try.f52 frac_Decode.c = true := by kernel_rfl
theorem frac_Decode.ent : ∀ args w, (callFunc 52 args).run Try.prog w = .ok (.enter 52 args) w := enters Try.func52 (by kernel_rfl) (by kernel_rfl)

/-- epact/epactref19.Below -/
def epactref19_Below.c : SF := ⟨14, [.t 4],
 (.seq (.region [⟨some 2, .box (.t 0), none⟩, ⟨some 3, .box (.t 1), none⟩, ⟨some 4, .mv (.k (.bool false)), none⟩])
 (.seq (.region [⟨some 5, .fld 0 (.t 2), none⟩, ⟨some 6, .load false 1 (.t 5) (some 2), none⟩, ⟨some 7, .not (.t 6), none⟩, ⟨some 8, .mv (.t 7), none⟩, ⟨some 9, .load true 2 (.t 2) (some 2), some (8, true)⟩, ⟨some 10, .load true 2 (.t 3) (some 3), some (8, true)⟩, ⟨some 11, .call 23 [(.t 9), (.t 10)], some (8, true)⟩, ⟨some 12, .bin .lss (.t 11) (.k (.int .i64 0)), some (8, true)⟩, ⟨some 13, .pick (.t 8) (.t 12) (.k (.bool false)), none⟩, ⟨some 4, .mv (.t 13), none⟩])
 .ret))⟩
theorem epactref19_Below.chk : chkFn Try.prog Try.f53 epactref19_Below.c = true := by kernel_rfl
theorem epactref19_Below.ent : ∀ args w, (callFunc 53 args).run Try.prog w = .ok (.enter 53 args) w := enters Try.func53 (by kernel_rfl) (by kernel_rfl)

/-- epact/epactref19.Power -/
def epactref19_Power.c : SF := ⟨6, [.c 2 true 2],
 (.seq (.region [⟨some 2, .alloc [.v (.bool false), .nil .i64], none⟩])
 (.seq (.region [⟨some 3, .mv (.t 0), none⟩, ⟨some 4, .bin .mul (.k (.int .i64 8)) (.t 3), none⟩, ⟨some 5, .call 75 [(.t 4)], none⟩, ⟨none, .store 2 (.t 2) (.t 5) 2, none⟩])
 .ret))⟩
theorem epactref19_Power.chk : chkFn Try.prog Try.f54 epactref19_Power.c = true := by kernel_rfl
theorem epactref19_Power.ent : ∀ args w, (callFunc 54 args).run Try.prog w = .ok (.enter 54 args) w := enters Try.func54 (by kernel_rfl) (by kernel_rfl)

/-- epact/epactref19.Least -/
def epactref19_Least.l1 : SC :=
 (.seq (.seq (.region [⟨some 9, .mv (.t 6), none⟩, ⟨some 10, .mv (.t 7), none⟩, ⟨some 11, .bin .lss (.t 9) (.t 10), none⟩])
 (.cond (.t 11)
 .skip
 (.exit 0)))
 (.block 1
 (.seq (.region [⟨some 12, .mv (.t 6), none⟩, ⟨some 13, .mv (.t 7), none⟩, ⟨some 14, .bin .add (.t 12) (.t 13), none⟩, ⟨some 15, .bin .quo (.t 14) (.k (.int .i64 2)), none⟩, ⟨some 8, .mv (.t 15), none⟩])
 (.seq (.region [⟨some 16, .mv (.t 8), none⟩, ⟨some 17, .mv (.t 1), none⟩, ⟨some 18, .call 51 [(.t 16), (.t 17)], none⟩, ⟨some 19, .load true 2 (.t 2) (some 2), none⟩, ⟨some 20, .call 23 [(.t 18), (.t 19)], none⟩, ⟨some 21, .bin .geq (.t 20) (.k (.int .i64 0)), none⟩])
 (.cond (.t 21)
 (.region [⟨some 22, .mv (.t 8), none⟩, ⟨some 7, .mv (.t 22), none⟩])
 (.region [⟨some 23, .mv (.t 8), none⟩, ⟨some 24, .bin .add (.t 23) (.k (.int .i64 1)), none⟩, ⟨some 6, .mv (.t 24), none⟩]))))))
def epactref19_Least.c : SF := ⟨36, [.t 4, .t 5],
 (.seq (.region [⟨some 2, .box (.t 0), none⟩, ⟨some 4, .mv (.k (.int .i64 0)), none⟩, ⟨some 5, .mv (.k (.bool false)), none⟩])
 (.seq (.region [⟨some 6, .mv (.k (.int .i64 0)), none⟩, ⟨some 7, .mv (.k (.int .i64 1000000000000000000)), none⟩])
 (.seq (.block 0
 (.loop epactref19_Least.l1))
 (.seq (.seq (.region [⟨some 25, .mv (.t 6), none⟩, ⟨some 26, .bin .eql (.t 25) (.k (.int .i64 1000000000000000000)), none⟩, ⟨some 27, .mv (.t 26), none⟩, ⟨some 28, .mv (.t 6), some (27, false)⟩, ⟨some 29, .mv (.t 1), some (27, false)⟩, ⟨some 30, .call 51 [(.t 28), (.t 29)], some (27, false)⟩, ⟨some 31, .load true 2 (.t 2) (some 2), some (27, false)⟩, ⟨some 32, .call 30 [(.t 30), (.t 31)], some (27, false)⟩, ⟨some 33, .not (.t 32), some (27, false)⟩, ⟨some 34, .pick (.t 27) (.k (.bool true)) (.t 33), none⟩])
 (.cond (.t 34)
 (.seq (.region [⟨some 4, .mv (.k (.int .i64 0)), none⟩, ⟨some 5, .mv (.k (.bool false)), none⟩])
 .ret)
 .skip))
 (.seq (.region [⟨some 35, .mv (.t 6), none⟩, ⟨some 4, .mv (.t 35), none⟩, ⟨some 5, .mv (.k (.bool true)), none⟩])
 .ret)))))⟩
theorem epactref19_Least.chk : chkFn Try.prog Try.f55 epactref19_Least.c = true := by kernel_rfl
theorem epactref19_Least.ent : ∀ args w, (callFunc 55 args).run Try.prog w = .ok (.enter 55 args) w := enters Try.func55 (by kernel_rfl) (by kernel_rfl)

/-- epact/frac.Put -/
def frac_Put.l1 : SC :=
 (.forget [8, 9] (.seq (.seq (.region [⟨some 28, .mv (.t 7), none⟩, ⟨some 29, .bin .geq (.t 28) (.k (.int .i64 0)), none⟩])
 (.cond (.t 29)
 .skip
 (.exit 1)))
 (.seq (.block 2
 (.seq (.region [⟨some 33, .load true 2 (.t 2) (some 2), none⟩, ⟨some 34, .call 78 [(.k (.int .i64 256))], none⟩, ⟨some 35, .call 73 [(.t 33), (.t 34)], none⟩, ⟨some 32, .mv (.t 35), none⟩, ⟨some 36, .ext (.t 32) 0, none⟩, ⟨some 37, .ext (.t 32) 1, none⟩, ⟨some 38, .ext (.t 32) 2, none⟩, ⟨some 8, .alloc [.v (.int .i64 0), .v (.int .u64 0)], none⟩, ⟨some 9, .alloc [.v (.int .i64 0), .v (.int .u64 0)], none⟩, ⟨none, .store 2 (.t 8) (.t 36) 8, none⟩, ⟨none, .store 2 (.t 9) (.t 37) 9, none⟩, ⟨some 10, .mv (.t 38), none⟩])
 (.seq (.region [⟨some 39, .mv (.t 6), none⟩, ⟨some 40, .mv (.t 7), none⟩, ⟨some 41, .fld 1 (.t 9), none⟩, ⟨some 42, .load false 1 (.t 41) (some 9), none⟩, ⟨some 43, .cvt .u8 (.t 42), none⟩, ⟨some 44, .idx 1 (.t 39) (.t 40), none⟩, ⟨none, .store 1 (.t 44) (.t 43) 25, none⟩])
 (.region [⟨some 45, .load true 2 (.t 8) (some 8), none⟩, ⟨none, .store 2 (.t 2) (.t 45) 2, none⟩]))))
 (.region [⟨some 30, .mv (.t 7), none⟩, ⟨some 31, .bin .sub (.t 30) (.k (.int .i64 1)), none⟩, ⟨some 7, .mv (.t 31), none⟩]))))
def frac_Put.c : SF := ⟨47, [.t 4, .t 5],
 (.seq (.region [⟨some 2, .box (.t 0), none⟩, ⟨some 4, .mv (.nil .u8), none⟩, ⟨some 5, .mv (.k (.int .i64 0)), none⟩])
 (.seq (.block 0
 (.seq (.region [⟨some 12, .mv (.t 1), none⟩, ⟨some 13, .bin .lss (.t 12) (.k (.int .i64 0)), none⟩, ⟨some 14, .mv (.t 13), none⟩, ⟨some 15, .mv (.t 1), some (14, false)⟩, ⟨some 16, .bin .gtr (.t 15) (.k (.int .i64 15)), some (14, false)⟩, ⟨some 17, .pick (.t 14) (.k (.bool true)) (.t 16), none⟩, ⟨some 11, .mv (.t 17), none⟩])
 (.cond (.t 11)
 (.seq (.region [⟨some 4, .mv (.nil .u8), none⟩, ⟨some 5, .mv (.k (.int .i64 1)), none⟩])
 .ret)
 (.seq (.region [⟨some 19, .load true 2 (.t 2) (some 2), none⟩, ⟨some 20, .mv (.t 1), none⟩, ⟨some 21, .call 95 [(.t 20)], none⟩, ⟨some 22, .call 94 [(.t 19), (.t 21)], none⟩, ⟨some 23, .not (.t 22), none⟩, ⟨some 18, .mv (.t 23), none⟩])
 (.cond (.t 18)
 (.seq (.region [⟨some 4, .mv (.nil .u8), none⟩, ⟨some 5, .mv (.k (.int .i64 2)), none⟩])
 .ret)
 .skip)))))
 (.seq (.region [⟨some 24, .mv (.t 1), none⟩, ⟨some 25, .mkS ⟨5, 1, some .u8⟩ (.int .u8 0) (.t 24), none⟩, ⟨some 6, .mv (.t 25), none⟩])
 (.seq (.seq (.region [⟨some 26, .mv (.t 1), none⟩, ⟨some 27, .bin .sub (.t 26) (.k (.int .i64 1)), none⟩, ⟨some 7, .mv (.t 27), none⟩])
 (.block 1
 (.loop frac_Put.l1)))
 (.seq (.region [⟨some 46, .mv (.t 6), none⟩, ⟨some 4, .mv (.t 46), none⟩, ⟨some 5, .mv (.k (.int .i64 0)), none⟩])
 .ret)))))⟩
theorem frac_Put.chk : chkFn Try.prog Try.f56 frac_Put.c = true := by kernel_rfl
theorem frac_Put.ent : ∀ args w, (callFunc 56 args).run Try.prog w = .ok (.enter 56 args) w := enters Try.func56 (by kernel_rfl) (by kernel_rfl)

/-- epact/frac.Get -/
def frac_Get.l1 : SC :=
 (.seq (.region [⟨some 15, .bin .lss (.t 14) (.t 13), none⟩])
 (.seq (.cond (.t 15)
 .skip
 (.exit 0))
 (.seq (.block 1
 (.seq (.region [⟨some 16, .idx 1 (.t 12) (.t 14), none⟩, ⟨some 17, .load false 1 (.t 16) none, none⟩, ⟨some 6, .mv (.t 17), none⟩])
 (.seq (.region [⟨some 19, .load true 2 (.t 4) (some 4), none⟩, ⟨some 20, .call 78 [(.k (.int .i64 256))], none⟩, ⟨some 21, .call 85 [(.t 19), (.t 20)], none⟩, ⟨some 18, .mv (.t 21), none⟩, ⟨some 22, .ext (.t 18) 0, none⟩, ⟨some 23, .ext (.t 18) 1, none⟩, ⟨none, .store 2 (.t 4) (.t 22) 4, none⟩])
 (.region [⟨some 25, .load true 2 (.t 4) (some 4), none⟩, ⟨some 26, .mv (.t 6), none⟩, ⟨some 27, .cvt .i64 (.t 26), none⟩, ⟨some 28, .call 78 [(.t 27)], none⟩, ⟨some 29, .call 83 [(.t 25), (.t 28)], none⟩, ⟨some 24, .mv (.t 29), none⟩, ⟨some 30, .ext (.t 24) 0, none⟩, ⟨some 31, .ext (.t 24) 1, none⟩, ⟨none, .store 2 (.t 4) (.t 30) 4, none⟩]))))
 (.region [⟨some 32, .bin .add (.t 14) (.k (.int .i64 1)), none⟩, ⟨some 14, .mv (.t 32), none⟩]))))
def frac_Get.c : SF := ⟨34, [.c 2 true 2, .t 3],
 (.seq (.region [⟨some 2, .alloc [.v (.int .i64 0), .v (.int .u64 0)], none⟩, ⟨some 3, .mv (.k (.int .i64 0)), none⟩])
 (.seq (.seq (.region [⟨some 7, .mv (.t 0), none⟩, ⟨some 8, .len (.t 7), none⟩, ⟨some 9, .bin .gtr (.t 8) (.k (.int .i64 15)), none⟩])
 (.cond (.t 9)
 (.seq (.region [⟨some 10, .build [.v (.int .i64 0), .v (.int .u64 0)] [], none⟩, ⟨none, .store 2 (.t 2) (.t 10) 2, none⟩, ⟨some 3, .mv (.k (.int .i64 1)), none⟩])
 .ret)
 .skip))
 (.seq (.region [⟨some 11, .build [.v (.int .i64 0), .v (.int .u64 0)] [], none⟩, ⟨some 4, .alloc [.v (.int .i64 0), .v (.int .u64 0)], none⟩, ⟨none, .store 2 (.t 4) (.t 11) 4, none⟩])
 (.seq (.seq (.region [⟨some 12, .mv (.t 0), none⟩, ⟨some 13, .len (.t 12), none⟩, ⟨some 14, .mv (.k (.int .i64 0)), none⟩])
 (.block 0
 (.loop frac_Get.l1)))
 (.seq (.region [⟨some 33, .load true 2 (.t 4) (some 4), none⟩, ⟨none, .store 2 (.t 2) (.t 33) 2, none⟩, ⟨some 3, .mv (.k (.int .i64 0)), none⟩])
 .ret)))))⟩
theorem frac_Get.chk : chkFn Try.prog Try.f57 frac_Get.c = true := by kernel_rfl
theorem frac_Get.ent : ∀ args w, (callFunc 57 args).run Try.prog w = .ok (.enter 57 args) w := enters Try.func57 (by kernel_rfl) (by kernel_rfl)

/-- epact/epactref19.Same -/
def epactref19_Same.c : SF := ⟨10, [.t 4],
 (.seq (.region [⟨some 4, .mv (.k (.bool false)), none⟩])
 (.seq (.region [⟨some 5, .mv (.t 0), none⟩, ⟨some 6, .str (.t 5), none⟩, ⟨some 7, .mv (.t 1), none⟩, ⟨some 8, .str (.t 7), none⟩, ⟨some 9, .eqt false (.t 6) (.t 8), none⟩, ⟨some 4, .mv (.t 9), none⟩])
 .ret))⟩
theorem epactref19_Same.chk : chkFn Try.prog Try.f58 epactref19_Same.c = true := by kernel_rfl
theorem epactref19_Same.ent : ∀ args w, (callFunc 58 args).run Try.prog w = .ok (.enter 58 args) w := enters Try.func58 (by kernel_rfl) (by kernel_rfl)

/-- epact/epactref19.Octets -/
def epactref19_Octets.l1 : SC :=
 (.forget [7, 8] (.seq (.seq (.region [⟨some 15, .mv (.t 6), none⟩, ⟨some 16, .bin .geq (.t 15) (.k (.int .i64 0)), none⟩])
 (.cond (.t 16)
 .skip
 (.exit 0)))
 (.seq (.block 1
 (.seq (.region [⟨some 20, .load true 2 (.t 2) (some 2), none⟩, ⟨some 21, .call 25 [(.k (.int .i64 256))], none⟩, ⟨some 22, .call 29 [(.t 20), (.t 21)], none⟩, ⟨some 19, .mv (.t 22), none⟩, ⟨some 23, .ext (.t 19) 0, none⟩, ⟨some 24, .ext (.t 19) 1, none⟩, ⟨some 7, .alloc [.v (.bool false), .nil .i64], none⟩, ⟨some 8, .alloc [.v (.bool false), .nil .i64], none⟩, ⟨none, .store 2 (.t 7) (.t 23) 7, none⟩, ⟨none, .store 2 (.t 8) (.t 24) 8, none⟩])
 (.seq (.region [⟨some 26, .load true 2 (.t 8) (some 8), none⟩, ⟨some 27, .call 89 [(.t 26)], none⟩, ⟨some 25, .mv (.t 27), none⟩, ⟨some 28, .ext (.t 25) 0, none⟩, ⟨some 29, .ext (.t 25) 1, none⟩, ⟨some 9, .mv (.t 28), none⟩, ⟨some 10, .mv (.t 29), none⟩])
 (.seq (.region [⟨some 30, .mv (.t 5), none⟩, ⟨some 31, .mv (.t 6), none⟩, ⟨some 32, .mv (.t 9), none⟩, ⟨some 33, .cvt .u8 (.t 32), none⟩, ⟨some 34, .idx 1 (.t 30) (.t 31), none⟩, ⟨none, .store 1 (.t 34) (.t 33) 12, none⟩])
 (.region [⟨some 35, .load true 2 (.t 7) (some 7), none⟩, ⟨none, .store 2 (.t 2) (.t 35) 2, none⟩])))))
 (.region [⟨some 17, .mv (.t 6), none⟩, ⟨some 18, .bin .sub (.t 17) (.k (.int .i64 1)), none⟩, ⟨some 6, .mv (.t 18), none⟩]))))
def epactref19_Octets.c : SF := ⟨37, [.t 4],
 (.seq (.region [⟨some 2, .box (.t 0), none⟩, ⟨some 4, .mv (.nil .u8), none⟩])
 (.seq (.region [⟨some 11, .mv (.t 1), none⟩, ⟨some 12, .mkS ⟨5, 1, some .u8⟩ (.int .u8 0) (.t 11), none⟩, ⟨some 5, .mv (.t 12), none⟩])
 (.seq (.seq (.region [⟨some 13, .mv (.t 1), none⟩, ⟨some 14, .bin .sub (.t 13) (.k (.int .i64 1)), none⟩, ⟨some 6, .mv (.t 14), none⟩])
 (.block 0
 (.loop epactref19_Octets.l1)))
 (.seq (.region [⟨some 36, .mv (.t 5), none⟩, ⟨some 4, .mv (.t 36), none⟩])
 .ret))))⟩
theorem epactref19_Octets.chk : chkFn Try.prog Try.f59 epactref19_Octets.c = true := by kernel_rfl
theorem epactref19_Octets.ent : ∀ args w, (callFunc 59 args).run Try.prog w = .ok (.enter 59 args) w := enters Try.func59 (by kernel_rfl) (by kernel_rfl)

/-- epact/epactref19.Number -/
def epactref19_Number.l1 : SC :=
 (.seq (.seq (.region [⟨some 6, .mv (.t 4), none⟩, ⟨some 7, .mv (.t 0), none⟩, ⟨some 8, .len (.t 7), none⟩, ⟨some 9, .bin .lss (.t 6) (.t 8), none⟩])
 (.cond (.t 9)
 .skip
 (.exit 0)))
 (.seq (.block 1
 (.region [⟨some 12, .load true 2 (.t 3) (some 3), none⟩, ⟨some 13, .call 25 [(.k (.int .i64 256))], none⟩, ⟨some 14, .call 34 [(.t 12), (.t 13)], none⟩, ⟨some 15, .mv (.t 0), none⟩, ⟨some 16, .mv (.t 4), none⟩, ⟨some 17, .idx 1 (.t 15) (.t 16), none⟩, ⟨some 18, .load false 1 (.t 17) none, none⟩, ⟨some 19, .cvt .i64 (.t 18), none⟩, ⟨some 20, .call 25 [(.t 19)], none⟩, ⟨some 21, .call 31 [(.t 14), (.t 20)], none⟩, ⟨none, .store 2 (.t 3) (.t 21) 3, none⟩]))
 (.region [⟨some 10, .mv (.t 4), none⟩, ⟨some 11, .bin .add (.t 10) (.k (.int .i64 1)), none⟩, ⟨some 4, .mv (.t 11), none⟩])))
def epactref19_Number.c : SF := ⟨23, [.c 2 true 2],
 (.seq (.region [⟨some 2, .alloc [.v (.bool false), .nil .i64], none⟩])
 (.seq (.region [⟨some 5, .build [.v (.bool false), .nil .i64] [], none⟩, ⟨some 3, .alloc [.v (.bool false), .nil .i64], none⟩, ⟨none, .store 2 (.t 3) (.t 5) 3, none⟩])
 (.seq (.seq (.region [⟨some 4, .mv (.k (.int .i64 0)), none⟩])
 (.block 0
 (.loop epactref19_Number.l1)))
 (.seq (.region [⟨some 22, .load true 2 (.t 3) (some 3), none⟩, ⟨none, .store 2 (.t 2) (.t 22) 2, none⟩])
 .ret))))⟩
theorem epactref19_Number.chk : chkFn Try.prog Try.f60 epactref19_Number.c = true := by kernel_rfl
theorem epactref19_Number.ent : ∀ args w, (callFunc 60 args).run Try.prog w = .ok (.enter 60 args) w := enters Try.func60 (by kernel_rfl) (by kernel_rfl)

/-- epact/scale.To -/
def scale_To.c : SF := ⟨31, [.c 4 true 2, .t 5],
 (.seq (.region [⟨some 3, .box (.t 1), none⟩, ⟨some 4, .alloc [.v (.int .i64 0), .v (.int .u64 0)], none⟩, ⟨some 5, .mv (.k (.int .i64 0)), none⟩])
 (.seq (.region [⟨some 9, .mv (.t 0), none⟩, ⟨some 10, .call 97 [(.t 9)], none⟩, ⟨some 8, .mv (.t 10), none⟩, ⟨some 11, .ext (.t 8) 0, none⟩, ⟨some 12, .ext (.t 8) 1, none⟩, ⟨some 6, .alloc [.v (.int .i64 0), .v (.int .u64 0)], none⟩, ⟨none, .store 2 (.t 6) (.t 11) 6, none⟩, ⟨some 7, .mv (.t 12), none⟩])
 (.seq (.seq (.region [⟨some 13, .mv (.t 7), none⟩, ⟨some 14, .bin .neq (.t 13) (.k (.int .i64 0)), none⟩])
 (.cond (.t 14)
 (.seq (.region [⟨some 15, .build [.v (.int .i64 0), .v (.int .u64 0)] [], none⟩, ⟨some 16, .mv (.t 7), none⟩, ⟨none, .store 2 (.t 4) (.t 15) 4, none⟩, ⟨some 5, .mv (.t 16), none⟩])
 .ret)
 .skip))
 (.seq (.region [⟨some 18, .load true 2 (.t 3) (some 3), none⟩, ⟨some 19, .call 98 [(.t 18), (.k (.int .i64 0))], none⟩, ⟨some 17, .mv (.t 19), none⟩, ⟨some 20, .ext (.t 17) 0, none⟩, ⟨some 21, .ext (.t 17) 1, none⟩, ⟨none, .store 2 (.t 3) (.t 20) 3, none⟩, ⟨some 7, .mv (.t 21), none⟩])
 (.seq (.seq (.region [⟨some 22, .mv (.t 7), none⟩, ⟨some 23, .bin .neq (.t 22) (.k (.int .i64 0)), none⟩])
 (.cond (.t 23)
 (.seq (.region [⟨some 24, .build [.v (.int .i64 0), .v (.int .u64 0)] [], none⟩, ⟨some 25, .mv (.t 7), none⟩, ⟨none, .store 2 (.t 4) (.t 24) 4, none⟩, ⟨some 5, .mv (.t 25), none⟩])
 .ret)
 .skip))
 (.seq (.region [⟨some 26, .load true 2 (.t 3) (some 3), none⟩, ⟨some 27, .load true 2 (.t 6) (some 6), none⟩, ⟨some 28, .call 99 [(.t 26), (.t 27)], none⟩, ⟨some 29, .ext (.t 28) 0, none⟩, ⟨some 30, .ext (.t 28) 1, none⟩, ⟨none, .store 2 (.t 4) (.t 29) 4, none⟩, ⟨some 5, .mv (.t 30), none⟩])
 .ret))))))⟩
theorem scale_To.chk : chkFn Try.prog Try.f61 scale_To.c = true := by kernel_rfl
theorem scale_To.ent : ∀ args w, (callFunc 61 args).run Try.prog w = .ok (.enter 61 args) w := enters Try.func61 (by kernel_rfl) (by kernel_rfl)

/-- epact/epactref15.Zero -/
def epactref15_Zero.c : SF := ⟨22, [.c 2 true 2, .t 3],
 (.seq (.region [⟨some 2, .alloc [.v (.bool false), .nil .i64], none⟩, ⟨some 3, .mv (.k (.bool false)), none⟩])
 (.seq (.seq (.region [⟨some 4, .mv (.t 0), none⟩])
 (.block 0
 (.seq (.region [⟨some 6, .bin .eql (.t 4) (.k (.int .i64 1)), none⟩, ⟨some 5, .mv (.t 6), none⟩])
 (.cond (.t 5)
 (.seq (.region [⟨some 7, .build [.v (.int .i64 0), .v (.int .i64 0), .v (.int .i64 0)] [(0, 1, (.k (.int .i64 36204)))], none⟩, ⟨some 8, .call 40 [(.t 7)], none⟩, ⟨none, .store 2 (.t 2) (.t 8) 2, none⟩, ⟨some 3, .mv (.k (.bool true)), none⟩])
 .ret)
 (.seq (.region [⟨some 10, .bin .eql (.t 4) (.k (.int .i64 2)), none⟩, ⟨some 9, .mv (.t 10), none⟩])
 (.cond (.t 9)
 (.seq (.region [⟨some 11, .build [.v (.int .i64 0), .v (.int .i64 0), .v (.int .i64 0)] [(0, 1, (.k (.int .i64 51544))), (1, 1, (.k (.int .i64 43167))), (2, 1, (.k (.int .i64 816000000000000000)))], none⟩, ⟨some 12, .call 40 [(.t 11)], none⟩, ⟨none, .store 2 (.t 2) (.t 12) 2, none⟩, ⟨some 3, .mv (.k (.bool true)), none⟩])
 .ret)
 (.seq (.region [⟨some 14, .bin .eql (.t 4) (.k (.int .i64 3)), none⟩, ⟨some 13, .mv (.t 14), none⟩])
 (.cond (.t 13)
 (.seq (.region [⟨some 15, .build [.v (.int .i64 0), .v (.int .i64 0), .v (.int .i64 0)] [(0, 1, (.k (.int .i64 44244))), (1, 1, (.k (.int .i64 19)))], none⟩, ⟨some 16, .call 40 [(.t 15)], none⟩, ⟨none, .store 2 (.t 2) (.t 16) 2, none⟩, ⟨some 3, .mv (.k (.bool true)), none⟩])
 .ret)
 (.seq (.region [⟨some 18, .bin .eql (.t 4) (.k (.int .i64 4)), none⟩, ⟨some 17, .mv (.t 18), none⟩])
 (.cond (.t 17)
 (.seq (.region [⟨some 19, .build [.v (.int .i64 0), .v (.int .i64 0), .v (.int .i64 0)] [(0, 1, (.k (.int .i64 40587)))], none⟩, ⟨some 20, .call 40 [(.t 19)], none⟩, ⟨none, .store 2 (.t 2) (.t 20) 2, none⟩, ⟨some 3, .mv (.k (.bool true)), none⟩])
 .ret)
 .skip))))))))))
 (.seq (.region [⟨some 21, .build [.v (.bool false), .nil .i64] [], none⟩, ⟨none, .store 2 (.t 2) (.t 21) 2, none⟩, ⟨some 3, .mv (.k (.bool false)), none⟩])
 .ret)))⟩
theorem epactref15_Zero.chk : chkFn Try.prog Try.f62 epactref15_Zero.c = true := by kernel_rfl
theorem epactref15_Zero.ent : ∀ args w, (callFunc 62 args).run Try.prog w = .ok (.enter 62 args) w := enters Try.func62 (by kernel_rfl) (by kernel_rfl)

/-- epact/epactlaw16.answers -/
def epactlaw16_answers.c : SF := ⟨42, [.t 0],
 (.seq (.region [⟨some 0, .mv (.k (.bool false)), none⟩])
 (.seq (.region [⟨some 8, .build [.v (.int .i64 0), .v (.int .u64 0)] [(1, 1, (.k (.int .u64 5)))], none⟩, ⟨some 9, .call 65 [(.k (.int .i64 3)), (.t 8)], none⟩, ⟨some 7, .mv (.t 9), none⟩, ⟨some 10, .ext (.t 7) 0, none⟩, ⟨some 11, .ext (.t 7) 1, none⟩, ⟨some 1, .alloc [.v (.int .i64 0), .v (.int .u64 0)], none⟩, ⟨none, .store 2 (.t 1) (.t 10) 1, none⟩, ⟨some 2, .mv (.t 11), none⟩])
 (.seq (.region [⟨some 13, .load true 2 (.t 1) (some 1), none⟩, ⟨some 14, .call 61 [(.k (.int .i64 3)), (.t 13)], none⟩, ⟨some 12, .mv (.t 14), none⟩, ⟨some 15, .ext (.t 12) 0, none⟩, ⟨some 16, .ext (.t 12) 1, none⟩, ⟨some 3, .alloc [.v (.int .i64 0), .v (.int .u64 0)], none⟩, ⟨none, .store 2 (.t 3) (.t 15) 3, none⟩, ⟨some 4, .mv (.t 16), none⟩])
 (.seq (.region [⟨some 18, .load true 2 (.t 1) (some 1), none⟩, ⟨some 19, .call 61 [(.k (.int .i64 9)), (.t 18)], none⟩, ⟨some 17, .mv (.t 19), none⟩, ⟨some 20, .ext (.t 17) 0, none⟩, ⟨some 21, .ext (.t 17) 1, none⟩, ⟨some 5, .alloc [.v (.int .i64 0), .v (.int .u64 0)], none⟩, ⟨none, .store 2 (.t 5) (.t 20) 5, none⟩, ⟨some 6, .mv (.t 21), none⟩])
 (.seq (.region [⟨some 22, .mv (.t 2), none⟩, ⟨some 23, .bin .eql (.t 22) (.k (.int .i64 0)), none⟩, ⟨some 24, .mv (.t 23), none⟩, ⟨some 25, .mv (.t 4), some (24, true)⟩, ⟨some 26, .bin .eql (.t 25) (.k (.int .i64 0)), some (24, true)⟩, ⟨some 27, .pick (.t 24) (.t 26) (.k (.bool false)), none⟩, ⟨some 28, .mv (.t 27), none⟩, ⟨some 29, .load true 2 (.t 3) (some 3), some (28, true)⟩, ⟨some 30, .build [.v (.int .i64 0), .v (.int .u64 0)] [(1, 1, (.k (.int .u64 5)))], some (28, true)⟩, ⟨some 31, .eqs false [.i64, .u64] (.t 29) (.t 30), some (28, true)⟩, ⟨some 32, .pick (.t 28) (.t 31) (.k (.bool false)), none⟩, ⟨some 33, .mv (.t 32), none⟩, ⟨some 34, .fld 0 (.t 1), some (33, true)⟩, ⟨some 35, .load false 1 (.t 34) (some 1), some (33, true)⟩, ⟨some 36, .bin .gtr (.t 35) (.k (.int .i64 0)), some (33, true)⟩, ⟨some 37, .pick (.t 33) (.t 36) (.k (.bool false)), none⟩, ⟨some 38, .mv (.t 37), none⟩, ⟨some 39, .mv (.t 6), some (38, true)⟩, ⟨some 40, .bin .eql (.t 39) (.k (.int .i64 1)), some (38, true)⟩, ⟨some 41, .pick (.t 38) (.t 40) (.k (.bool false)), none⟩, ⟨some 0, .mv (.t 41), none⟩])
 .ret)))))⟩
theorem epactlaw16_answers.chk : chkFn Try.prog Try.f63 epactlaw16_answers.c = true := by kernel_rfl
theorem epactlaw16_answers.ent : ∀ args w, (callFunc 63 args).run Try.prog w = .ok (.enter 63 args) w := enters Try.func63 (by kernel_rfl) (by kernel_rfl)

/-- epact/epactlaw16.in -/
def epactlaw16_in.c : SF := ⟨11, [.t 2],
 (.seq (.region [⟨some 1, .box (.t 0), none⟩, ⟨some 2, .mv (.k (.bool false)), none⟩])
 (.seq (.region [⟨some 6, .load true 2 (.t 1) (some 1), none⟩, ⟨some 7, .call 41 [(.t 6)], none⟩, ⟨some 5, .mv (.t 7), none⟩, ⟨some 8, .ext (.t 5) 0, none⟩, ⟨some 9, .ext (.t 5) 1, none⟩, ⟨some 3, .alloc [.v (.int .i64 0), .v (.int .i64 0), .v (.int .i64 0)], none⟩, ⟨none, .store 3 (.t 3) (.t 8) 3, none⟩, ⟨some 4, .mv (.t 9), none⟩])
 (.seq (.region [⟨some 10, .mv (.t 4), none⟩, ⟨some 2, .mv (.t 10), none⟩])
 .ret)))⟩
theorem epactlaw16_in.chk : chkFn Try.prog Try.f64 epactlaw16_in.c = true := by kernel_rfl
theorem epactlaw16_in.ent : ∀ args w, (callFunc 64 args).run Try.prog w = .ok (.enter 64 args) w := enters Try.func64 (by kernel_rfl) (by kernel_rfl)

/-- epact/scale.From -/
def scale_From.c : SF := ⟨25, [.c 4 true 2, .t 5],
 (.seq (.region [⟨some 3, .box (.t 1), none⟩, ⟨some 4, .alloc [.v (.int .i64 0), .v (.int .u64 0)], none⟩, ⟨some 5, .mv (.k (.int .i64 0)), none⟩])
 (.seq (.region [⟨some 9, .mv (.t 0), none⟩, ⟨some 10, .call 97 [(.t 9)], none⟩, ⟨some 8, .mv (.t 10), none⟩, ⟨some 11, .ext (.t 8) 0, none⟩, ⟨some 12, .ext (.t 8) 1, none⟩, ⟨some 6, .alloc [.v (.int .i64 0), .v (.int .u64 0)], none⟩, ⟨none, .store 2 (.t 6) (.t 11) 6, none⟩, ⟨some 7, .mv (.t 12), none⟩])
 (.seq (.seq (.region [⟨some 13, .mv (.t 7), none⟩, ⟨some 14, .bin .neq (.t 13) (.k (.int .i64 0)), none⟩])
 (.cond (.t 14)
 (.seq (.region [⟨some 15, .build [.v (.int .i64 0), .v (.int .u64 0)] [], none⟩, ⟨some 16, .mv (.t 7), none⟩, ⟨none, .store 2 (.t 4) (.t 15) 4, none⟩, ⟨some 5, .mv (.t 16), none⟩])
 .ret)
 .skip))
 (.seq (.region [⟨some 17, .load true 2 (.t 3) (some 3), none⟩, ⟨some 18, .load true 2 (.t 6) (some 6), none⟩, ⟨some 19, .call 83 [(.t 17), (.t 18)], none⟩, ⟨some 20, .ext (.t 19) 0, none⟩, ⟨some 21, .ext (.t 19) 1, none⟩, ⟨some 22, .call 98 [(.t 20), (.t 21)], none⟩, ⟨some 23, .ext (.t 22) 0, none⟩, ⟨some 24, .ext (.t 22) 1, none⟩, ⟨none, .store 2 (.t 4) (.t 23) 4, none⟩, ⟨some 5, .mv (.t 24), none⟩])
 .ret))))⟩
theorem scale_From.chk : chkFn Try.prog Try.f65 scale_From.c = true := by kernel_rfl
theorem scale_From.ent : ∀ args w, (callFunc 65 args).run Try.prog w = .ok (.enter 65 args) w := enters Try.func65 (by kernel_rfl) (by kernel_rfl)

/-- epact/ptp.Encode -/
def ptp_Encode.c : SF := ⟨44, [.t 2, .t 3],
 (.seq (.region [⟨some 1, .box (.t 0), none⟩, ⟨some 2, .mv (.nil .u8), none⟩, ⟨some 3, .mv (.k (.int .i64 0)), none⟩])
 (.seq (.region [⟨some 14, .load true 2 (.t 1) (some 1), none⟩, ⟨some 15, .call 78 [(.k (.int .i64 1000000000000000000))], none⟩, ⟨some 16, .call 73 [(.t 14), (.t 15)], none⟩, ⟨some 13, .mv (.t 16), none⟩, ⟨some 17, .ext (.t 13) 0, none⟩, ⟨some 18, .ext (.t 13) 1, none⟩, ⟨some 19, .ext (.t 13) 2, none⟩, ⟨some 4, .alloc [.v (.int .i64 0), .v (.int .u64 0)], none⟩, ⟨some 5, .alloc [.v (.int .i64 0), .v (.int .u64 0)], none⟩, ⟨none, .store 2 (.t 4) (.t 17) 4, none⟩, ⟨none, .store 2 (.t 5) (.t 18) 5, none⟩, ⟨some 6, .mv (.t 19), none⟩])
 (.seq (.region [⟨some 21, .load true 2 (.t 4) (some 4), none⟩, ⟨some 22, .call 56 [(.t 21), (.k (.int .i64 6))], none⟩, ⟨some 20, .mv (.t 22), none⟩, ⟨some 23, .ext (.t 20) 0, none⟩, ⟨some 24, .ext (.t 20) 1, none⟩, ⟨some 7, .mv (.t 23), none⟩, ⟨some 8, .mv (.t 24), none⟩])
 (.seq (.seq (.region [⟨some 25, .mv (.t 8), none⟩, ⟨some 26, .bin .neq (.t 25) (.k (.int .i64 0)), none⟩])
 (.cond (.t 26)
 (.seq (.region [⟨some 27, .mv (.t 8), none⟩, ⟨some 2, .mv (.nil .u8), none⟩, ⟨some 3, .mv (.t 27), none⟩])
 .ret)
 .skip))
 (.seq (.region [⟨some 29, .load true 2 (.t 5) (some 5), none⟩, ⟨some 30, .call 87 [(.t 29)], none⟩, ⟨some 28, .mv (.t 30), none⟩, ⟨some 31, .ext (.t 28) 0, none⟩, ⟨some 32, .ext (.t 28) 1, none⟩, ⟨some 9, .mv (.t 31), none⟩, ⟨some 10, .mv (.t 32), none⟩])
 (.seq (.region [⟨some 34, .mv (.t 9), none⟩, ⟨some 35, .bin .quo (.t 34) (.k (.int .i64 1000000000)), none⟩, ⟨some 36, .call 78 [(.t 35)], none⟩, ⟨some 37, .call 56 [(.t 36), (.k (.int .i64 4))], none⟩, ⟨some 33, .mv (.t 37), none⟩, ⟨some 38, .ext (.t 33) 0, none⟩, ⟨some 39, .ext (.t 33) 1, none⟩, ⟨some 11, .mv (.t 38), none⟩, ⟨some 12, .mv (.t 39), none⟩])
 (.seq (.region [⟨some 40, .mv (.t 7), none⟩, ⟨some 41, .mv (.t 11), none⟩, ⟨some 42, .bldS ⟨72, 1, none⟩ [.nil .u8, .nil .u8] 2 [(0, 1, (.t 40)), (1, 1, (.t 41))], none⟩, ⟨some 43, .callR 100 [(.t 42)], none⟩, ⟨some 2, .mv (.t 43), none⟩, ⟨some 3, .mv (.k (.int .i64 0)), none⟩])
 .ret)))))))⟩
theorem ptp_Encode.chk : chkFn Try.prog Try.f66 ptp_Encode.c = true := by kernel_rfl
theorem ptp_Encode.ent : ∀ args w, (callFunc 66 args).run Try.prog w = .ok (.enter 66 args) w := enters Try.func66 (by kernel_rfl) (by kernel_rfl)

/-- epact/epactref19.Ptp -/
def epactref19_Ptp.c : SF := ⟨22, [.t 2, .t 3],
 (.seq (.region [⟨some 1, .box (.t 0), none⟩, ⟨some 2, .mv (.nil .u8), none⟩, ⟨some 3, .mv (.k (.int .i64 0)), none⟩])
 (.seq (.region [⟨some 7, .load true 2 (.t 1) (some 1), none⟩, ⟨some 8, .call 101 [(.t 7)], none⟩, ⟨some 6, .mv (.t 8), none⟩, ⟨some 9, .ext (.t 6) 0, none⟩, ⟨some 10, .ext (.t 6) 1, none⟩, ⟨some 4, .alloc [.v (.bool false), .nil .i64], none⟩, ⟨none, .store 2 (.t 4) (.t 9) 4, none⟩, ⟨some 5, .mv (.t 10), none⟩])
 (.seq (.seq (.region [⟨some 11, .load true 2 (.t 4) (some 4), none⟩, ⟨some 12, .call 75 [(.k (.int .i64 48))], none⟩, ⟨some 13, .call 53 [(.t 11), (.t 12)], none⟩, ⟨some 14, .not (.t 13), none⟩])
 (.cond (.t 14)
 (.seq (.region [⟨some 2, .mv (.nil .u8), none⟩, ⟨some 3, .mv (.k (.int .i64 2)), none⟩])
 .ret)
 .skip))
 (.seq (.region [⟨some 15, .load true 2 (.t 4) (some 4), none⟩, ⟨some 16, .call 59 [(.t 15), (.k (.int .i64 6))], none⟩, ⟨some 17, .mv (.t 5), none⟩, ⟨some 18, .bin .quo (.t 17) (.k (.int .i64 1000000000)), none⟩, ⟨some 19, .call 25 [(.t 18)], none⟩, ⟨some 20, .call 59 [(.t 19), (.k (.int .i64 4))], none⟩, ⟨some 21, .call 102 [(.t 16), (.t 20)], none⟩, ⟨some 2, .mv (.t 21), none⟩, ⟨some 3, .mv (.k (.int .i64 0)), none⟩])
 .ret))))⟩
theorem epactref19_Ptp.chk : chkFn Try.prog Try.f67 epactref19_Ptp.c = true := by kernel_rfl
theorem epactref19_Ptp.ent : ∀ args w, (callFunc 67 args).run Try.prog w = .ok (.enter 67 args) w := enters Try.func67 (by kernel_rfl) (by kernel_rfl)

/-- epact/epactlaw24.answers -/
def epactlaw24_answers.c : SF := ⟨42, [.t 0],
 (.seq (.region [⟨some 0, .mv (.k (.bool false)), none⟩])
 (.seq (.region [⟨some 8, .call 78 [(.k (.int .i64 1500000000000000000))], none⟩, ⟨some 9, .call 66 [(.t 8)], none⟩, ⟨some 7, .mv (.t 9), none⟩, ⟨some 10, .ext (.t 7) 0, none⟩, ⟨some 11, .ext (.t 7) 1, none⟩, ⟨some 1, .mv (.t 10), none⟩, ⟨some 2, .mv (.t 11), none⟩])
 (.seq (.region [⟨some 13, .mv (.t 1), none⟩, ⟨some 14, .call 69 [(.t 13)], none⟩, ⟨some 12, .mv (.t 14), none⟩, ⟨some 15, .ext (.t 12) 0, none⟩, ⟨some 16, .ext (.t 12) 1, none⟩, ⟨some 3, .alloc [.v (.int .i64 0), .v (.int .u64 0)], none⟩, ⟨none, .store 2 (.t 3) (.t 15) 3, none⟩, ⟨some 4, .mv (.t 16), none⟩])
 (.seq (.region [⟨some 18, .call 78 [(.k (.int .i64 (-1)))], none⟩, ⟨some 19, .call 66 [(.t 18)], none⟩, ⟨some 17, .mv (.t 19), none⟩, ⟨some 20, .ext (.t 17) 0, none⟩, ⟨some 21, .ext (.t 17) 1, none⟩, ⟨some 5, .mv (.t 20), none⟩, ⟨some 6, .mv (.t 21), none⟩])
 (.seq (.region [⟨some 22, .mv (.t 2), none⟩, ⟨some 23, .bin .eql (.t 22) (.k (.int .i64 0)), none⟩, ⟨some 24, .mv (.t 23), none⟩, ⟨some 25, .mv (.t 1), some (24, true)⟩, ⟨some 26, .str (.t 25), some (24, true)⟩, ⟨some 27, .eqt false (.t 26) (.k (.string ⟨#[0, 0, 0, 0, 0, 1, 29, 205, 101, 0]⟩)), some (24, true)⟩, ⟨some 28, .pick (.t 24) (.t 27) (.k (.bool false)), none⟩, ⟨some 29, .mv (.t 28), none⟩, ⟨some 30, .mv (.t 4), some (29, true)⟩, ⟨some 31, .bin .eql (.t 30) (.k (.int .i64 0)), some (29, true)⟩, ⟨some 32, .pick (.t 29) (.t 31) (.k (.bool false)), none⟩, ⟨some 33, .mv (.t 32), none⟩, ⟨some 34, .load true 2 (.t 3) (some 3), some (33, true)⟩, ⟨some 35, .call 78 [(.k (.int .i64 1500000000000000000))], some (33, true)⟩, ⟨some 36, .eqs false [.i64, .u64] (.t 34) (.t 35), some (33, true)⟩, ⟨some 37, .pick (.t 33) (.t 36) (.k (.bool false)), none⟩, ⟨some 38, .mv (.t 37), none⟩, ⟨some 39, .mv (.t 6), some (38, true)⟩, ⟨some 40, .bin .eql (.t 39) (.k (.int .i64 2)), some (38, true)⟩, ⟨some 41, .pick (.t 38) (.t 40) (.k (.bool false)), none⟩, ⟨some 0, .mv (.t 41), none⟩])
 .ret)))))⟩
theorem epactlaw24_answers.chk : chkFn Try.prog Try.f68 epactlaw24_answers.c = true := by kernel_rfl
theorem epactlaw24_answers.ent : ∀ args w, (callFunc 68 args).run Try.prog w = .ok (.enter 68 args) w := enters Try.func68 (by kernel_rfl) (by kernel_rfl)

/-- epact/ptp.Decode -/
def ptp_Decode.c : SF := ⟨49, [.c 2 true 2, .t 3],
 (.seq (.region [⟨some 2, .alloc [.v (.int .i64 0), .v (.int .u64 0)], none⟩, ⟨some 3, .mv (.k (.int .i64 0)), none⟩])
 (.seq (.seq (.region [⟨some 12, .mv (.t 0), none⟩, ⟨some 13, .len (.t 12), none⟩, ⟨some 14, .bin .neq (.t 13) (.k (.int .i64 10)), none⟩])
 (.cond (.t 14)
 (.seq (.region [⟨some 15, .build [.v (.int .i64 0), .v (.int .u64 0)] [], none⟩, ⟨none, .store 2 (.t 2) (.t 15) 2, none⟩, ⟨some 3, .mv (.k (.int .i64 4)), none⟩])
 .ret)
 .skip))
 (.seq (.region [⟨some 17, .mv (.t 0), none⟩, ⟨some 18, .sl (.t 17) none (some (.k (.int .i64 6))), none⟩, ⟨some 19, .call 57 [(.t 18)], none⟩, ⟨some 16, .mv (.t 19), none⟩, ⟨some 20, .ext (.t 16) 0, none⟩, ⟨some 21, .ext (.t 16) 1, none⟩, ⟨some 4, .alloc [.v (.int .i64 0), .v (.int .u64 0)], none⟩, ⟨none, .store 2 (.t 4) (.t 20) 4, none⟩, ⟨some 5, .mv (.t 21), none⟩])
 (.seq (.region [⟨some 23, .mv (.t 0), none⟩, ⟨some 24, .sl (.t 23) (some (.k (.int .i64 6))) none, none⟩, ⟨some 25, .call 57 [(.t 24)], none⟩, ⟨some 22, .mv (.t 25), none⟩, ⟨some 26, .ext (.t 22) 0, none⟩, ⟨some 27, .ext (.t 22) 1, none⟩, ⟨some 6, .alloc [.v (.int .i64 0), .v (.int .u64 0)], none⟩, ⟨none, .store 2 (.t 6) (.t 26) 6, none⟩, ⟨some 7, .mv (.t 27), none⟩])
 (.seq (.region [⟨some 29, .load true 2 (.t 6) (some 6), none⟩, ⟨some 30, .call 87 [(.t 29)], none⟩, ⟨some 28, .mv (.t 30), none⟩, ⟨some 31, .ext (.t 28) 0, none⟩, ⟨some 32, .ext (.t 28) 1, none⟩, ⟨some 8, .mv (.t 31), none⟩, ⟨some 9, .mv (.t 32), none⟩])
 (.seq (.seq (.region [⟨some 33, .mv (.t 8), none⟩, ⟨some 34, .bin .geq (.t 33) (.k (.int .i64 1000000000)), none⟩])
 (.cond (.t 34)
 (.seq (.region [⟨some 35, .build [.v (.int .i64 0), .v (.int .u64 0)] [], none⟩, ⟨none, .store 2 (.t 2) (.t 35) 2, none⟩, ⟨some 3, .mv (.k (.int .i64 4)), none⟩])
 .ret)
 .skip))
 (.seq (.region [⟨some 37, .load true 2 (.t 4) (some 4), none⟩, ⟨some 38, .call 78 [(.k (.int .i64 1000000000000000000))], none⟩, ⟨some 39, .call 85 [(.t 37), (.t 38)], none⟩, ⟨some 36, .mv (.t 39), none⟩, ⟨some 40, .ext (.t 36) 0, none⟩, ⟨some 41, .ext (.t 36) 1, none⟩, ⟨some 10, .alloc [.v (.int .i64 0), .v (.int .u64 0)], none⟩, ⟨none, .store 2 (.t 10) (.t 40) 10, none⟩, ⟨some 11, .mv (.t 41), none⟩])
 (.seq (.region [⟨some 42, .load true 2 (.t 10) (some 10), none⟩, ⟨some 43, .mv (.t 8), none⟩, ⟨some 44, .bin .mul (.t 43) (.k (.int .i64 1000000000)), none⟩, ⟨some 45, .call 78 [(.t 44)], none⟩, ⟨some 46, .call 83 [(.t 42), (.t 45)], none⟩, ⟨some 47, .ext (.t 46) 0, none⟩, ⟨some 48, .ext (.t 46) 1, none⟩, ⟨none, .store 2 (.t 2) (.t 47) 2, none⟩, ⟨some 3, .mv (.t 48), none⟩])
 .ret))))))))⟩
theorem ptp_Decode.chk : chkFn Try.prog Try.f69 ptp_Decode.c = true := by kernel_rfl
theorem ptp_Decode.ent : ∀ args w, (callFunc 69 args).run Try.prog w = .ok (.enter 69 args) w := enters Try.func69 (by kernel_rfl) (by kernel_rfl)

/-- epact/epactref19.FromPtp -/
def epactref19_FromPtp.c : SF := ⟨26, [.c 2 true 2, .t 3],
 (.seq (.region [⟨some 2, .alloc [.v (.bool false), .nil .i64], none⟩, ⟨some 3, .mv (.k (.bool false)), none⟩])
 (.seq (.seq (.region [⟨some 4, .mv (.t 0), none⟩, ⟨some 5, .len (.t 4), none⟩, ⟨some 6, .bin .neq (.t 5) (.k (.int .i64 10)), none⟩, ⟨some 7, .mv (.t 6), none⟩, ⟨some 8, .mv (.t 0), some (7, false)⟩, ⟨some 9, .sl (.t 8) (some (.k (.int .i64 6))) none, some (7, false)⟩, ⟨some 10, .call 60 [(.t 9)], some (7, false)⟩, ⟨some 11, .call 25 [(.k (.int .i64 1000000000))], some (7, false)⟩, ⟨some 12, .call 23 [(.t 10), (.t 11)], some (7, false)⟩, ⟨some 13, .bin .geq (.t 12) (.k (.int .i64 0)), some (7, false)⟩, ⟨some 14, .pick (.t 7) (.k (.bool true)) (.t 13), none⟩])
 (.cond (.t 14)
 (.seq (.region [⟨some 15, .build [.v (.bool false), .nil .i64] [], none⟩, ⟨none, .store 2 (.t 2) (.t 15) 2, none⟩, ⟨some 3, .mv (.k (.bool false)), none⟩])
 .ret)
 .skip))
 (.seq (.region [⟨some 16, .mv (.t 0), none⟩, ⟨some 17, .sl (.t 16) none (some (.k (.int .i64 6))), none⟩, ⟨some 18, .call 60 [(.t 17)], none⟩, ⟨some 19, .call 103 [(.t 18)], none⟩, ⟨some 20, .mv (.t 0), none⟩, ⟨some 21, .sl (.t 20) (some (.k (.int .i64 6))) none, none⟩, ⟨some 22, .call 60 [(.t 21)], none⟩, ⟨some 23, .call 25 [(.k (.int .i64 1000000000))], none⟩, ⟨some 24, .call 34 [(.t 22), (.t 23)], none⟩, ⟨some 25, .call 31 [(.t 19), (.t 24)], none⟩, ⟨none, .store 2 (.t 2) (.t 25) 2, none⟩, ⟨some 3, .mv (.k (.bool true)), none⟩])
 .ret)))⟩
theorem epactref19_FromPtp.chk : chkFn Try.prog Try.f70 epactref19_FromPtp.c = true := by kernel_rfl
theorem epactref19_FromPtp.ent : ∀ args w, (callFunc 70 args).run Try.prog w = .ok (.enter 70 args) w := enters Try.func70 (by kernel_rfl) (by kernel_rfl)

/-- epact/wide.Cmp -/
def wide_Cmp.c : SF := ⟨29, [.t 4],
 (.seq (.region [⟨some 2, .box (.t 0), none⟩, ⟨some 3, .box (.t 1), none⟩, ⟨some 4, .mv (.k (.int .i64 0)), none⟩])
 (.seq (.block 0
 (.seq (.region [⟨some 6, .load true 2 (.t 2) (some 2), none⟩, ⟨some 7, .load true 2 (.t 3) (some 3), none⟩, ⟨some 8, .eqs false [.i64, .u64] (.t 6) (.t 7), none⟩, ⟨some 5, .mv (.t 8), none⟩])
 (.cond (.t 5)
 (.seq (.region [⟨some 4, .mv (.k (.int .i64 0)), none⟩])
 .ret)
 (.seq (.region [⟨some 10, .fld 0 (.t 2), none⟩, ⟨some 11, .load false 1 (.t 10) (some 2), none⟩, ⟨some 12, .fld 0 (.t 3), none⟩, ⟨some 13, .load false 1 (.t 12) (some 3), none⟩, ⟨some 14, .bin .lss (.t 11) (.t 13), none⟩, ⟨some 15, .mv (.t 14), none⟩, ⟨some 16, .fld 0 (.t 2), some (15, false)⟩, ⟨some 17, .load false 1 (.t 16) (some 2), some (15, false)⟩, ⟨some 18, .fld 0 (.t 3), some (15, false)⟩, ⟨some 19, .load false 1 (.t 18) (some 3), some (15, false)⟩, ⟨some 20, .bin .eql (.t 17) (.t 19), some (15, false)⟩, ⟨some 21, .mv (.t 20), some (15, false)⟩, ⟨some 22, .fld 1 (.t 2), some (21, true)⟩, ⟨some 23, .load false 1 (.t 22) (some 2), some (21, true)⟩, ⟨some 24, .fld 1 (.t 3), some (21, true)⟩, ⟨some 25, .load false 1 (.t 24) (some 3), some (21, true)⟩, ⟨some 26, .bin .lss (.t 23) (.t 25), some (21, true)⟩, ⟨some 27, .pick (.t 21) (.t 26) (.k (.bool false)), some (15, false)⟩, ⟨some 28, .pick (.t 15) (.k (.bool true)) (.t 27), none⟩, ⟨some 9, .mv (.t 28), none⟩])
 (.cond (.t 9)
 (.seq (.region [⟨some 4, .mv (.k (.int .i64 (-1))), none⟩])
 .ret)
 .skip)))))
 (.seq (.region [⟨some 4, .mv (.k (.int .i64 1)), none⟩])
 .ret)))⟩
theorem wide_Cmp.chk : chkFn Try.prog Try.f71 wide_Cmp.c = true := by kernel_rfl
theorem wide_Cmp.ent : ∀ args w, (callFunc 71 args).run Try.prog w = .ok (.enter 71 args) w := enters Try.func71 (by kernel_rfl) (by kernel_rfl)

/-- epact/ratio.divisor -/
def ratio_divisor.l1 : SC :=
 (.forget [5, 6] (.block 1
 (.seq (.region [⟨some 9, .load true 2 (.t 2) (some 2), none⟩, ⟨some 10, .load true 2 (.t 3) (some 3), none⟩, ⟨some 11, .call 73 [(.t 9), (.t 10)], none⟩, ⟨some 8, .mv (.t 11), none⟩, ⟨some 12, .ext (.t 8) 0, none⟩, ⟨some 13, .ext (.t 8) 1, none⟩, ⟨some 14, .ext (.t 8) 2, none⟩, ⟨some 5, .alloc [.v (.int .i64 0), .v (.int .u64 0)], none⟩, ⟨some 6, .alloc [.v (.int .i64 0), .v (.int .u64 0)], none⟩, ⟨none, .store 2 (.t 5) (.t 12) 5, none⟩, ⟨none, .store 2 (.t 6) (.t 13) 6, none⟩, ⟨some 7, .mv (.t 14), none⟩])
 (.seq (.seq (.region [⟨some 15, .load true 2 (.t 6) (some 6), none⟩, ⟨some 16, .build [.v (.int .i64 0), .v (.int .u64 0)] [], none⟩, ⟨some 17, .eqs false [.i64, .u64] (.t 15) (.t 16), none⟩])
 (.cond (.t 17)
 (.seq (.region [⟨some 18, .load true 2 (.t 3) (some 3), none⟩, ⟨none, .store 2 (.t 4) (.t 18) 4, none⟩])
 .ret)
 .skip))
 (.region [⟨some 19, .load true 2 (.t 3) (some 3), none⟩, ⟨some 20, .load true 2 (.t 6) (some 6), none⟩, ⟨none, .store 2 (.t 2) (.t 19) 2, none⟩, ⟨none, .store 2 (.t 3) (.t 20) 3, none⟩])))))
def ratio_divisor.c : SF := ⟨21, [.c 4 true 2],
 (.seq (.region [⟨some 2, .box (.t 0), none⟩, ⟨some 3, .box (.t 1), none⟩, ⟨some 4, .alloc [.v (.int .i64 0), .v (.int .u64 0)], none⟩])
 (.block 0
 (.loop ratio_divisor.l1)))⟩
theorem ratio_divisor.chk : chkFn Try.prog Try.f72 ratio_divisor.c = true := by kernel_rfl
theorem ratio_divisor.ent : ∀ args w, (callFunc 72 args).run Try.prog w = .ok (.enter 72 args) w := enters Try.func72 (by kernel_rfl) (by kernel_rfl)

/-- epact/wide.Div -/
def wide_Div.c : SF := ⟨14, [.c 4 true 2, .c 5 true 2, .t 6],
 (.seq (.region [⟨some 2, .box (.t 0), none⟩, ⟨some 3, .box (.t 1), none⟩, ⟨some 4, .alloc [.v (.int .i64 0), .v (.int .u64 0)], none⟩, ⟨some 5, .alloc [.v (.int .i64 0), .v (.int .u64 0)], none⟩, ⟨some 6, .mv (.k (.int .i64 0)), none⟩])
 (.seq (.region [⟨some 7, .load true 2 (.t 2) (some 2), none⟩, ⟨some 8, .call 78 [(.k (.int .i64 1))], none⟩, ⟨some 9, .load true 2 (.t 3) (some 3), none⟩, ⟨some 10, .call 96 [(.t 7), (.t 8), (.t 9)], none⟩, ⟨some 11, .ext (.t 10) 0, none⟩, ⟨some 12, .ext (.t 10) 1, none⟩, ⟨some 13, .ext (.t 10) 2, none⟩, ⟨none, .store 2 (.t 4) (.t 11) 4, none⟩, ⟨none, .store 2 (.t 5) (.t 12) 5, none⟩, ⟨some 6, .mv (.t 13), none⟩])
 .ret))⟩
theorem wide_Div.chk : chkFn Try.prog Try.f73 wide_Div.c = true := by kernel_rfl
theorem wide_Div.ent : ∀ args w, (callFunc 73 args).run Try.prog w = .ok (.enter 73 args) w := enters Try.func73 (by kernel_rfl) (by kernel_rfl)

/-- epact/epactref01.cmp -/
def epactref01_cmp.l1 : SC :=
 (.seq (.seq (.region [⟨some 19, .mv (.t 5), none⟩, ⟨some 20, .bin .geq (.t 19) (.k (.int .i64 0)), none⟩])
 (.cond (.t 20)
 .skip
 (.exit 0)))
 (.seq (.block 1
 (.seq (.seq (.region [⟨some 23, .mv (.t 0), none⟩, ⟨some 24, .mv (.t 5), none⟩, ⟨some 25, .idx 1 (.t 23) (.t 24), none⟩, ⟨some 26, .load false 1 (.t 25) none, none⟩, ⟨some 27, .mv (.t 1), none⟩, ⟨some 28, .mv (.t 5), none⟩, ⟨some 29, .idx 1 (.t 27) (.t 28), none⟩, ⟨some 30, .load false 1 (.t 29) none, none⟩, ⟨some 31, .bin .lss (.t 26) (.t 30), none⟩])
 (.cond (.t 31)
 (.seq (.region [⟨some 4, .mv (.k (.int .i64 (-1))), none⟩])
 .ret)
 .skip))
 (.seq (.region [⟨some 32, .mv (.t 0), none⟩, ⟨some 33, .mv (.t 5), none⟩, ⟨some 34, .idx 1 (.t 32) (.t 33), none⟩, ⟨some 35, .load false 1 (.t 34) none, none⟩, ⟨some 36, .mv (.t 1), none⟩, ⟨some 37, .mv (.t 5), none⟩, ⟨some 38, .idx 1 (.t 36) (.t 37), none⟩, ⟨some 39, .load false 1 (.t 38) none, none⟩, ⟨some 40, .bin .gtr (.t 35) (.t 39), none⟩])
 (.cond (.t 40)
 (.seq (.region [⟨some 4, .mv (.k (.int .i64 1)), none⟩])
 .ret)
 .skip))))
 (.region [⟨some 21, .mv (.t 5), none⟩, ⟨some 22, .bin .sub (.t 21) (.k (.int .i64 1)), none⟩, ⟨some 5, .mv (.t 22), none⟩])))
def epactref01_cmp.c : SF := ⟨41, [.t 4],
 (.seq (.region [⟨some 4, .mv (.k (.int .i64 0)), none⟩])
 (.seq (.seq (.region [⟨some 6, .mv (.t 0), none⟩, ⟨some 7, .len (.t 6), none⟩, ⟨some 8, .mv (.t 1), none⟩, ⟨some 9, .len (.t 8), none⟩, ⟨some 10, .bin .neq (.t 7) (.t 9), none⟩])
 (.cond (.t 10)
 (.seq (.seq (.region [⟨some 11, .mv (.t 0), none⟩, ⟨some 12, .len (.t 11), none⟩, ⟨some 13, .mv (.t 1), none⟩, ⟨some 14, .len (.t 13), none⟩, ⟨some 15, .bin .lss (.t 12) (.t 14), none⟩])
 (.cond (.t 15)
 (.seq (.region [⟨some 4, .mv (.k (.int .i64 (-1))), none⟩])
 .ret)
 .skip))
 (.seq (.region [⟨some 4, .mv (.k (.int .i64 1)), none⟩])
 .ret))
 .skip))
 (.seq (.seq (.region [⟨some 16, .mv (.t 0), none⟩, ⟨some 17, .len (.t 16), none⟩, ⟨some 18, .bin .sub (.t 17) (.k (.int .i64 1)), none⟩, ⟨some 5, .mv (.t 18), none⟩])
 (.block 0
 (.loop epactref01_cmp.l1)))
 (.seq (.region [⟨some 4, .mv (.k (.int .i64 0)), none⟩])
 .ret))))⟩
theorem epactref01_cmp.chk : chkFn Try.prog Try.f74 epactref01_cmp.c = true := by kernel_rfl
theorem epactref01_cmp.ent : ∀ args w, (callFunc 74 args).run Try.prog w = .ok (.enter 74 args) w := enters Try.func74 (by kernel_rfl) (by kernel_rfl)

/-- epact/epactref01.Pow2 -/
def epactref01_Pow2.c : SF := ⟨18, [.c 2 true 2],
 (.seq (.region [⟨some 2, .alloc [.v (.bool false), .nil .i64], none⟩])
 (.seq (.region [⟨some 4, .mv (.t 0), none⟩, ⟨some 5, .bin .quo (.t 4) (.k (.int .i64 16)), none⟩, ⟨some 6, .bin .add (.t 5) (.k (.int .i64 1)), none⟩, ⟨some 7, .mkS ⟨3, 1, some .i64⟩ (.int .i64 0) (.t 6), none⟩, ⟨some 3, .mv (.t 7), none⟩])
 (.seq (.region [⟨some 8, .mv (.t 3), none⟩, ⟨some 9, .mv (.t 0), none⟩, ⟨some 10, .bin .quo (.t 9) (.k (.int .i64 16)), none⟩, ⟨some 11, .mv (.t 0), none⟩, ⟨some 12, .bin .rem (.t 11) (.k (.int .i64 16)), none⟩, ⟨some 13, .cvt .u64 (.t 12), none⟩, ⟨some 14, .bin .shl (.k (.int .i64 1)) (.t 13), none⟩, ⟨some 15, .idx 1 (.t 8) (.t 10), none⟩, ⟨none, .store 1 (.t 15) (.t 14) 7, none⟩])
 (.seq (.region [⟨some 16, .mv (.t 3), none⟩, ⟨some 17, .build [.v (.bool false), .nil .i64] [(1, 1, (.t 16))], none⟩, ⟨none, .store 2 (.t 2) (.t 17) 2, none⟩])
 .ret))))⟩
theorem epactref01_Pow2.chk : chkFn Try.prog Try.f75 epactref01_Pow2.c = true := by kernel_rfl
theorem epactref01_Pow2.ent : ∀ args w, (callFunc 75 args).run Try.prog w = .ok (.enter 75 args) w := enters Try.func75 (by kernel_rfl) (by kernel_rfl)

/-- epact/epactref01.Word -/
def epactref01_Word.c : SF := ⟨20, [.c 2 true 2],
 (.seq (.region [⟨some 2, .alloc [.v (.bool false), .nil .i64], none⟩])
 (.seq (.region [⟨some 3, .mv (.t 0), none⟩, ⟨some 4, .bin .and (.t 3) (.k (.int .u64 65535)), none⟩, ⟨some 5, .cvt .i64 (.t 4), none⟩, ⟨some 6, .mv (.t 0), none⟩, ⟨some 7, .bin .shr (.t 6) (.k (.int .u64 16)), none⟩, ⟨some 8, .bin .and (.t 7) (.k (.int .u64 65535)), none⟩, ⟨some 9, .cvt .i64 (.t 8), none⟩, ⟨some 10, .mv (.t 0), none⟩, ⟨some 11, .bin .shr (.t 10) (.k (.int .u64 32)), none⟩, ⟨some 12, .bin .and (.t 11) (.k (.int .u64 65535)), none⟩, ⟨some 13, .cvt .i64 (.t 12), none⟩, ⟨some 14, .mv (.t 0), none⟩, ⟨some 15, .bin .shr (.t 14) (.k (.int .u64 48)), none⟩, ⟨some 16, .cvt .i64 (.t 15), none⟩, ⟨some 17, .bldS ⟨3, 1, some .i64⟩ [.v (.int .i64 0), .v (.int .i64 0), .v (.int .i64 0), .v (.int .i64 0)] 4 [(0, 1, (.t 5)), (1, 1, (.t 9)), (2, 1, (.t 13)), (3, 1, (.t 16))], none⟩, ⟨some 18, .callR 79 [(.t 17)], none⟩, ⟨some 19, .build [.v (.bool false), .nil .i64] [(1, 1, (.t 18))], none⟩, ⟨none, .store 2 (.t 2) (.t 19) 2, none⟩])
 .ret))⟩
theorem epactref01_Word.chk : chkFn Try.prog Try.f76 epactref01_Word.c = true := by kernel_rfl
theorem epactref01_Word.ent : ∀ args w, (callFunc 76 args).run Try.prog w = .ok (.enter 76 args) w := enters Try.func76 (by kernel_rfl) (by kernel_rfl)

/-- epact/epactref01.Neg -/
def epactref01_Neg.c : SF := ⟨15, [.c 2 true 2],
 (.seq (.region [⟨some 1, .box (.t 0), none⟩, ⟨some 2, .alloc [.v (.bool false), .nil .i64], none⟩])
 (.seq (.region [⟨some 3, .fld 0 (.t 1), none⟩, ⟨some 4, .load false 1 (.t 3) (some 1), none⟩, ⟨some 5, .not (.t 4), none⟩, ⟨some 6, .mv (.t 5), none⟩, ⟨some 7, .fld 1 (.t 1), some (6, true)⟩, ⟨some 8, .load false 1 (.t 7) (some 1), some (6, true)⟩, ⟨some 9, .len (.t 8), some (6, true)⟩, ⟨some 10, .bin .gtr (.t 9) (.k (.int .i64 0)), some (6, true)⟩, ⟨some 11, .pick (.t 6) (.t 10) (.k (.bool false)), none⟩, ⟨some 12, .fld 1 (.t 1), none⟩, ⟨some 13, .load false 1 (.t 12) (some 1), none⟩, ⟨some 14, .build [.v (.bool false), .nil .i64] [(0, 1, (.t 11)), (1, 1, (.t 13))], none⟩, ⟨none, .store 2 (.t 2) (.t 14) 2, none⟩])
 .ret))⟩
theorem epactref01_Neg.chk : chkFn Try.prog Try.f77 epactref01_Neg.c = true := by kernel_rfl
theorem epactref01_Neg.ent : ∀ args w, (callFunc 77 args).run Try.prog w = .ok (.enter 77 args) w := enters Try.func77 (by kernel_rfl) (by kernel_rfl)

/-- epact/wide.Of -/
def wide_Of.c : SF := ⟨8, [.c 2 true 2],
 (.seq (.region [⟨some 2, .alloc [.v (.int .i64 0), .v (.int .u64 0)], none⟩])
 (.seq (.region [⟨some 3, .mv (.t 0), none⟩, ⟨some 4, .bin .shr (.t 3) (.k (.int .u64 63)), none⟩, ⟨some 5, .mv (.t 0), none⟩, ⟨some 6, .cvt .u64 (.t 5), none⟩, ⟨some 7, .build [.v (.int .i64 0), .v (.int .u64 0)] [(0, 1, (.t 4)), (1, 1, (.t 6))], none⟩, ⟨none, .store 2 (.t 2) (.t 7) 2, none⟩])
 .ret))⟩
theorem wide_Of.chk : chkFn Try.prog Try.f78 wide_Of.c = true := by kernel_rfl
theorem wide_Of.ent : ∀ args w, (callFunc 78 args).run Try.prog w = .ok (.enter 78 args) w := enters Try.func78 (by kernel_rfl) (by kernel_rfl)

/-- epact/epactref01.trim -/
def epactref01_trim.l1 : SC :=
 (.seq (.seq (.region [⟨some 6, .mv (.t 3), none⟩, ⟨some 7, .bin .gtr (.t 6) (.k (.int .i64 0)), none⟩, ⟨some 8, .mv (.t 7), none⟩, ⟨some 9, .mv (.t 0), some (8, true)⟩, ⟨some 10, .mv (.t 3), some (8, true)⟩, ⟨some 11, .bin .sub (.t 10) (.k (.int .i64 1)), some (8, true)⟩, ⟨some 12, .idx 1 (.t 9) (.t 11), some (8, true)⟩, ⟨some 13, .load false 1 (.t 12) none, some (8, true)⟩, ⟨some 14, .bin .eql (.t 13) (.k (.int .i64 0)), some (8, true)⟩, ⟨some 15, .pick (.t 8) (.t 14) (.k (.bool false)), none⟩])
 (.cond (.t 15)
 .skip
 (.exit 0)))
 (.block 1
 (.region [⟨some 16, .mv (.t 3), none⟩, ⟨some 17, .bin .sub (.t 16) (.k (.int .i64 1)), none⟩, ⟨some 3, .mv (.t 17), none⟩])))
def epactref01_trim.c : SF := ⟨21, [.t 2],
 (.seq (.region [⟨some 2, .mv (.nil .i64), none⟩])
 (.seq (.region [⟨some 4, .mv (.t 0), none⟩, ⟨some 5, .len (.t 4), none⟩, ⟨some 3, .mv (.t 5), none⟩])
 (.seq (.block 0
 (.loop epactref01_trim.l1))
 (.seq (.region [⟨some 18, .mv (.t 0), none⟩, ⟨some 19, .mv (.t 3), none⟩, ⟨some 20, .sl (.t 18) none (some (.t 19)), none⟩, ⟨some 2, .mv (.t 20), none⟩])
 .ret))))⟩
theorem epactref01_trim.chk : chkFn Try.prog Try.f79 epactref01_trim.c = true := by kernel_rfl
theorem epactref01_trim.ent : ∀ args w, (callFunc 79 args).run Try.prog w = .ok (.enter 79 args) w := enters Try.func79 (by kernel_rfl) (by kernel_rfl)

/-- epact/epactref01.digit -/
def epactref01_digit.l1 : SC :=
 (.seq (.seq (.region [⟨some 8, .mv (.t 5), none⟩, ⟨some 9, .mv (.t 6), none⟩, ⟨some 10, .bin .lss (.t 8) (.t 9), none⟩])
 (.cond (.t 10)
 .skip
 (.exit 0)))
 (.block 1
 (.seq (.region [⟨some 11, .mv (.t 5), none⟩, ⟨some 12, .mv (.t 6), none⟩, ⟨some 13, .bin .add (.t 11) (.t 12), none⟩, ⟨some 14, .bin .add (.t 13) (.k (.int .i64 1)), none⟩, ⟨some 15, .bin .quo (.t 14) (.k (.int .i64 2)), none⟩, ⟨some 7, .mv (.t 15), none⟩])
 (.seq (.region [⟨some 16, .mv (.t 1), none⟩, ⟨some 17, .build [.v (.bool false), .nil .i64] [(1, 1, (.t 16))], none⟩, ⟨some 18, .mv (.t 7), none⟩, ⟨some 19, .cvt .u64 (.t 18), none⟩, ⟨some 20, .call 76 [(.t 19)], none⟩, ⟨some 21, .call 34 [(.t 17), (.t 20)], none⟩, ⟨some 22, .part false 1 1 (.t 21), none⟩, ⟨some 23, .mv (.t 0), none⟩, ⟨some 24, .call 74 [(.t 22), (.t 23)], none⟩, ⟨some 25, .bin .leq (.t 24) (.k (.int .i64 0)), none⟩])
 (.cond (.t 25)
 (.region [⟨some 26, .mv (.t 7), none⟩, ⟨some 5, .mv (.t 26), none⟩])
 (.region [⟨some 27, .mv (.t 7), none⟩, ⟨some 28, .bin .sub (.t 27) (.k (.int .i64 1)), none⟩, ⟨some 6, .mv (.t 28), none⟩]))))))
def epactref01_digit.c : SF := ⟨30, [.t 4],
 (.seq (.region [⟨some 4, .mv (.k (.int .i64 0)), none⟩])
 (.seq (.region [⟨some 5, .mv (.k (.int .i64 0)), none⟩, ⟨some 6, .mv (.k (.int .i64 65535)), none⟩])
 (.seq (.block 0
 (.loop epactref01_digit.l1))
 (.seq (.region [⟨some 29, .mv (.t 5), none⟩, ⟨some 4, .mv (.t 29), none⟩])
 .ret))))⟩
theorem epactref01_digit.chk : chkFn Try.prog Try.f80 epactref01_digit.c = true := by kernel_rfl
theorem epactref01_digit.ent : ∀ args w, (callFunc 80 args).run Try.prog w = .ok (.enter 80 args) w := enters Try.func80 (by kernel_rfl) (by kernel_rfl)

/-- epact/epactref01.sub -/
def epactref01_sub.l1 : SC :=
 (.seq (.seq (.region [⟨some 9, .mv (.t 7), none⟩, ⟨some 10, .mv (.t 0), none⟩, ⟨some 11, .len (.t 10), none⟩, ⟨some 12, .bin .lss (.t 9) (.t 11), none⟩])
 (.cond (.t 12)
 .skip
 (.exit 0)))
 (.seq (.block 1
 (.seq (.region [⟨some 15, .mv (.t 0), none⟩, ⟨some 16, .mv (.t 7), none⟩, ⟨some 17, .idx 1 (.t 15) (.t 16), none⟩, ⟨some 18, .load false 1 (.t 17) none, none⟩, ⟨some 19, .mv (.t 6), none⟩, ⟨some 20, .bin .sub (.t 18) (.t 19), none⟩, ⟨some 8, .mv (.t 20), none⟩])
 (.seq (.seq (.region [⟨some 21, .mv (.t 7), none⟩, ⟨some 22, .mv (.t 1), none⟩, ⟨some 23, .len (.t 22), none⟩, ⟨some 24, .bin .lss (.t 21) (.t 23), none⟩])
 (.cond (.t 24)
 (.region [⟨some 25, .mv (.t 8), none⟩, ⟨some 26, .mv (.t 1), none⟩, ⟨some 27, .mv (.t 7), none⟩, ⟨some 28, .idx 1 (.t 26) (.t 27), none⟩, ⟨some 29, .load false 1 (.t 28) none, none⟩, ⟨some 30, .bin .sub (.t 25) (.t 29), none⟩, ⟨some 8, .mv (.t 30), none⟩])
 .skip))
 (.seq (.region [⟨some 6, .mv (.k (.int .i64 0)), none⟩])
 (.seq (.seq (.region [⟨some 31, .mv (.t 8), none⟩, ⟨some 32, .bin .lss (.t 31) (.k (.int .i64 0)), none⟩])
 (.cond (.t 32)
 (.region [⟨some 33, .mv (.t 8), none⟩, ⟨some 34, .bin .add (.t 33) (.k (.int .i64 65536)), none⟩, ⟨some 8, .mv (.t 34), none⟩, ⟨some 6, .mv (.k (.int .i64 1)), none⟩])
 .skip))
 (.region [⟨some 35, .mv (.t 5), none⟩, ⟨some 36, .mv (.t 8), none⟩, ⟨some 37, .bldS ⟨3, 1, some .i64⟩ [.v (.int .i64 0)] 1 [(0, 1, (.t 36))], none⟩, ⟨some 38, .app ⟨3, 1, some .i64⟩ (.t 35) (.t 37), none⟩, ⟨some 5, .mv (.t 38), none⟩]))))))
 (.region [⟨some 13, .mv (.t 7), none⟩, ⟨some 14, .bin .add (.t 13) (.k (.int .i64 1)), none⟩, ⟨some 7, .mv (.t 14), none⟩])))
def epactref01_sub.c : SF := ⟨41, [.t 4],
 (.seq (.region [⟨some 4, .mv (.nil .i64), none⟩])
 (.seq (.region [⟨some 5, .mv (.nil .i64), none⟩])
 (.seq (.region [⟨some 6, .mv (.k (.int .i64 0)), none⟩])
 (.seq (.seq (.region [⟨some 7, .mv (.k (.int .i64 0)), none⟩])
 (.block 0
 (.loop epactref01_sub.l1)))
 (.seq (.region [⟨some 39, .mv (.t 5), none⟩, ⟨some 40, .callR 79 [(.t 39)], none⟩, ⟨some 4, .mv (.t 40), none⟩])
 .ret)))))⟩
theorem epactref01_sub.chk : chkFn Try.prog Try.f81 epactref01_sub.c = true := by kernel_rfl
theorem epactref01_sub.ent : ∀ args w, (callFunc 81 args).run Try.prog w = .ok (.enter 81 args) w := enters Try.func81 (by kernel_rfl) (by kernel_rfl)

/-- epact/epactref01.add -/
def epactref01_add.l1 : SC :=
 (.seq (.seq (.region [⟨some 8, .mv (.t 7), none⟩, ⟨some 9, .mv (.t 0), none⟩, ⟨some 10, .len (.t 9), none⟩, ⟨some 11, .bin .lss (.t 8) (.t 10), none⟩, ⟨some 12, .mv (.t 11), none⟩, ⟨some 13, .mv (.t 7), some (12, false)⟩, ⟨some 14, .mv (.t 1), some (12, false)⟩, ⟨some 15, .len (.t 14), some (12, false)⟩, ⟨some 16, .bin .lss (.t 13) (.t 15), some (12, false)⟩, ⟨some 17, .pick (.t 12) (.k (.bool true)) (.t 16), none⟩, ⟨some 18, .mv (.t 17), none⟩, ⟨some 19, .mv (.t 6), some (18, false)⟩, ⟨some 20, .bin .gtr (.t 19) (.k (.int .i64 0)), some (18, false)⟩, ⟨some 21, .pick (.t 18) (.k (.bool true)) (.t 20), none⟩])
 (.cond (.t 21)
 .skip
 (.exit 0)))
 (.seq (.block 1
 (.seq (.seq (.region [⟨some 24, .mv (.t 7), none⟩, ⟨some 25, .mv (.t 0), none⟩, ⟨some 26, .len (.t 25), none⟩, ⟨some 27, .bin .lss (.t 24) (.t 26), none⟩])
 (.cond (.t 27)
 (.region [⟨some 28, .mv (.t 6), none⟩, ⟨some 29, .mv (.t 0), none⟩, ⟨some 30, .mv (.t 7), none⟩, ⟨some 31, .idx 1 (.t 29) (.t 30), none⟩, ⟨some 32, .load false 1 (.t 31) none, none⟩, ⟨some 33, .bin .add (.t 28) (.t 32), none⟩, ⟨some 6, .mv (.t 33), none⟩])
 .skip))
 (.seq (.seq (.region [⟨some 34, .mv (.t 7), none⟩, ⟨some 35, .mv (.t 1), none⟩, ⟨some 36, .len (.t 35), none⟩, ⟨some 37, .bin .lss (.t 34) (.t 36), none⟩])
 (.cond (.t 37)
 (.region [⟨some 38, .mv (.t 6), none⟩, ⟨some 39, .mv (.t 1), none⟩, ⟨some 40, .mv (.t 7), none⟩, ⟨some 41, .idx 1 (.t 39) (.t 40), none⟩, ⟨some 42, .load false 1 (.t 41) none, none⟩, ⟨some 43, .bin .add (.t 38) (.t 42), none⟩, ⟨some 6, .mv (.t 43), none⟩])
 .skip))
 (.seq (.region [⟨some 44, .mv (.t 5), none⟩, ⟨some 45, .mv (.t 6), none⟩, ⟨some 46, .bin .rem (.t 45) (.k (.int .i64 65536)), none⟩, ⟨some 47, .bldS ⟨3, 1, some .i64⟩ [.v (.int .i64 0)] 1 [(0, 1, (.t 46))], none⟩, ⟨some 48, .app ⟨3, 1, some .i64⟩ (.t 44) (.t 47), none⟩, ⟨some 5, .mv (.t 48), none⟩])
 (.region [⟨some 49, .mv (.t 6), none⟩, ⟨some 50, .bin .quo (.t 49) (.k (.int .i64 65536)), none⟩, ⟨some 6, .mv (.t 50), none⟩])))))
 (.region [⟨some 22, .mv (.t 7), none⟩, ⟨some 23, .bin .add (.t 22) (.k (.int .i64 1)), none⟩, ⟨some 7, .mv (.t 23), none⟩])))
def epactref01_add.c : SF := ⟨53, [.t 4],
 (.seq (.region [⟨some 4, .mv (.nil .i64), none⟩])
 (.seq (.region [⟨some 5, .mv (.nil .i64), none⟩])
 (.seq (.region [⟨some 6, .mv (.k (.int .i64 0)), none⟩])
 (.seq (.seq (.region [⟨some 7, .mv (.k (.int .i64 0)), none⟩])
 (.block 0
 (.loop epactref01_add.l1)))
 (.seq (.region [⟨some 51, .mv (.t 5), none⟩, ⟨some 52, .callR 79 [(.t 51)], none⟩, ⟨some 4, .mv (.t 52), none⟩])
 .ret)))))⟩
theorem epactref01_add.chk : chkFn Try.prog Try.f82 epactref01_add.c = true := by kernel_rfl
theorem epactref01_add.ent : ∀ args w, (callFunc 82 args).run Try.prog w = .ok (.enter 82 args) w := enters Try.func82 (by kernel_rfl) (by kernel_rfl)

/-- epact/wide.Add -/
def wide_Add.c : SF := ⟨37, [.c 4 true 2, .t 5],
 (.seq (.region [⟨some 2, .box (.t 0), none⟩, ⟨some 3, .box (.t 1), none⟩, ⟨some 4, .alloc [.v (.int .i64 0), .v (.int .u64 0)], none⟩, ⟨some 5, .mv (.k (.int .i64 0)), none⟩])
 (.seq (.region [⟨some 10, .load true 2 (.t 2) (some 2), none⟩, ⟨some 11, .call 105 [(.t 10)], none⟩, ⟨some 12, .load true 2 (.t 3) (some 3), none⟩, ⟨some 13, .call 105 [(.t 12)], none⟩, ⟨some 14, .call 104 [(.t 11), (.t 13)], none⟩, ⟨some 9, .mv (.t 14), none⟩, ⟨some 15, .ext (.t 9) 0, none⟩, ⟨some 16, .ext (.t 9) 1, none⟩, ⟨some 6, .alloc [.v (.int .u64 0), .v (.int .u64 0)], none⟩, ⟨none, .store 2 (.t 6) (.t 15) 6, none⟩, ⟨some 7, .mv (.t 16), none⟩])
 (.seq (.region [⟨some 17, .load true 2 (.t 6) (some 6), none⟩, ⟨some 18, .call 106 [(.t 17)], none⟩, ⟨some 8, .alloc [.v (.int .i64 0), .v (.int .u64 0)], none⟩, ⟨none, .store 2 (.t 8) (.t 18) 8, none⟩])
 (.seq (.seq (.region [⟨some 19, .fld 0 (.t 2), none⟩, ⟨some 20, .load false 1 (.t 19) (some 2), none⟩, ⟨some 21, .bin .shr (.t 20) (.k (.int .u64 63)), none⟩, ⟨some 22, .fld 0 (.t 3), none⟩, ⟨some 23, .load false 1 (.t 22) (some 3), none⟩, ⟨some 24, .bin .shr (.t 23) (.k (.int .u64 63)), none⟩, ⟨some 25, .bin .eql (.t 21) (.t 24), none⟩, ⟨some 26, .mv (.t 25), none⟩, ⟨some 27, .fld 0 (.t 8), some (26, true)⟩, ⟨some 28, .load false 1 (.t 27) (some 8), some (26, true)⟩, ⟨some 29, .bin .shr (.t 28) (.k (.int .u64 63)), some (26, true)⟩, ⟨some 30, .fld 0 (.t 2), some (26, true)⟩, ⟨some 31, .load false 1 (.t 30) (some 2), some (26, true)⟩, ⟨some 32, .bin .shr (.t 31) (.k (.int .u64 63)), some (26, true)⟩, ⟨some 33, .bin .neq (.t 29) (.t 32), some (26, true)⟩, ⟨some 34, .pick (.t 26) (.t 33) (.k (.bool false)), none⟩])
 (.cond (.t 34)
 (.seq (.region [⟨some 35, .build [.v (.int .i64 0), .v (.int .u64 0)] [], none⟩, ⟨none, .store 2 (.t 4) (.t 35) 4, none⟩, ⟨some 5, .mv (.k (.int .i64 2)), none⟩])
 .ret)
 .skip))
 (.seq (.region [⟨some 36, .load true 2 (.t 8) (some 8), none⟩, ⟨none, .store 2 (.t 4) (.t 36) 4, none⟩, ⟨some 5, .mv (.k (.int .i64 0)), none⟩])
 .ret)))))⟩
theorem wide_Add.chk : chkFn Try.prog Try.f83 wide_Add.c = true := by kernel_rfl
theorem wide_Add.ent : ∀ args w, (callFunc 83 args).run Try.prog w = .ok (.enter 83 args) w := enters Try.func83 (by kernel_rfl) (by kernel_rfl)

/-- epact/day.check -/
def day_check.c : SF := ⟨12, [.t 2],
 (.seq (.region [⟨some 1, .box (.t 0), none⟩, ⟨some 2, .mv (.k (.int .i64 0)), none⟩])
 (.seq (.block 0
 (.seq (.region [⟨some 4, .load true 3 (.t 1) (some 1), none⟩, ⟨some 5, .call 92 [(.t 4)], none⟩, ⟨some 6, .not (.t 5), none⟩, ⟨some 3, .mv (.t 6), none⟩])
 (.cond (.t 3)
 (.seq (.region [⟨some 2, .mv (.k (.int .i64 1)), none⟩])
 .ret)
 (.seq (.region [⟨some 8, .fld 0 (.t 1), none⟩, ⟨some 9, .load false 1 (.t 8) (some 1), none⟩, ⟨some 10, .call 88 [(.t 9)], none⟩, ⟨some 11, .not (.t 10), none⟩, ⟨some 7, .mv (.t 11), none⟩])
 (.cond (.t 7)
 (.seq (.region [⟨some 2, .mv (.k (.int .i64 2)), none⟩])
 .ret)
 .skip)))))
 (.seq (.region [⟨some 2, .mv (.k (.int .i64 0)), none⟩])
 .ret)))⟩
theorem day_check.chk : chkFn Try.prog Try.f84 day_check.c = true := by kernel_rfl
theorem day_check.ent : ∀ args w, (callFunc 84 args).run Try.prog w = .ok (.enter 84 args) w := enters Try.func84 (by kernel_rfl) (by kernel_rfl)

/-- epact/wide.Mul -/
def wide_Mul.c : SF := ⟨31, [.c 4 true 2, .t 5],
 (.seq (.region [⟨some 2, .box (.t 0), none⟩, ⟨some 3, .box (.t 1), none⟩, ⟨some 4, .alloc [.v (.int .i64 0), .v (.int .u64 0)], none⟩, ⟨some 5, .mv (.k (.int .i64 0)), none⟩])
 (.seq (.region [⟨some 9, .load true 2 (.t 2) (some 2), none⟩, ⟨some 10, .call 108 [(.t 9)], none⟩, ⟨some 11, .load true 2 (.t 3) (some 3), none⟩, ⟨some 12, .call 108 [(.t 11)], none⟩, ⟨some 13, .call 107 [(.t 10), (.t 12)], none⟩, ⟨some 8, .mv (.t 13), none⟩, ⟨some 14, .ext (.t 8) 0, none⟩, ⟨some 15, .ext (.t 8) 1, none⟩, ⟨some 6, .alloc [.v (.int .u64 0), .v (.int .u64 0)], none⟩, ⟨some 7, .alloc [.v (.int .u64 0), .v (.int .u64 0)], none⟩, ⟨none, .store 2 (.t 6) (.t 14) 6, none⟩, ⟨none, .store 2 (.t 7) (.t 15) 7, none⟩])
 (.seq (.seq (.region [⟨some 16, .load true 2 (.t 6) (some 6), none⟩, ⟨some 17, .build [.v (.int .u64 0), .v (.int .u64 0)] [], none⟩, ⟨some 18, .eqs true [.u64, .u64] (.t 16) (.t 17), none⟩])
 (.cond (.t 18)
 (.seq (.region [⟨some 19, .build [.v (.int .i64 0), .v (.int .u64 0)] [], none⟩, ⟨none, .store 2 (.t 4) (.t 19) 4, none⟩, ⟨some 5, .mv (.k (.int .i64 2)), none⟩])
 .ret)
 .skip))
 (.seq (.region [⟨some 20, .load true 2 (.t 7) (some 7), none⟩, ⟨some 21, .fld 0 (.t 2), none⟩, ⟨some 22, .load false 1 (.t 21) (some 2), none⟩, ⟨some 23, .bin .lss (.t 22) (.k (.int .i64 0)), none⟩, ⟨some 24, .fld 0 (.t 3), none⟩, ⟨some 25, .load false 1 (.t 24) (some 3), none⟩, ⟨some 26, .bin .lss (.t 25) (.k (.int .i64 0)), none⟩, ⟨some 27, .eqb true (.t 23) (.t 26), none⟩, ⟨some 28, .call 109 [(.t 20), (.t 27)], none⟩, ⟨some 29, .ext (.t 28) 0, none⟩, ⟨some 30, .ext (.t 28) 1, none⟩, ⟨none, .store 2 (.t 4) (.t 29) 4, none⟩, ⟨some 5, .mv (.t 30), none⟩])
 .ret))))⟩
theorem wide_Mul.chk : chkFn Try.prog Try.f85 wide_Mul.c = true := by kernel_rfl
theorem wide_Mul.ent : ∀ args w, (callFunc 85 args).run Try.prog w = .ok (.enter 85 args) w := enters Try.func85 (by kernel_rfl) (by kernel_rfl)

/-- epact/epactref05.In -/
def epactref05_In.c : SF := ⟨9, [.t 2],
 (.seq (.region [⟨some 2, .mv (.k (.bool false)), none⟩])
 (.seq (.region [⟨some 3, .mv (.t 0), none⟩, ⟨some 4, .bin .geq (.t 3) (.k (.int .i64 (-1099511627776))), none⟩, ⟨some 5, .mv (.t 4), none⟩, ⟨some 6, .mv (.t 0), some (5, true)⟩, ⟨some 7, .bin .leq (.t 6) (.k (.int .i64 1099511627776)), some (5, true)⟩, ⟨some 8, .pick (.t 5) (.t 7) (.k (.bool false)), none⟩, ⟨some 2, .mv (.t 8), none⟩])
 .ret))⟩
theorem epactref05_In.chk : chkFn Try.prog Try.f86 epactref05_In.c = true := by kernel_rfl
theorem epactref05_In.ent : ∀ args w, (callFunc 86 args).run Try.prog w = .ok (.enter 86 args) w := enters Try.func86 (by kernel_rfl) (by kernel_rfl)

/-- epact/wide.Int -/
def wide_Int.c : SF := ⟨13, [.t 2, .t 3],
 (.seq (.region [⟨some 1, .box (.t 0), none⟩, ⟨some 2, .mv (.k (.int .i64 0)), none⟩, ⟨some 3, .mv (.k (.int .i64 0)), none⟩])
 (.seq (.seq (.region [⟨some 5, .fld 1 (.t 1), none⟩, ⟨some 6, .load false 1 (.t 5) (some 1), none⟩, ⟨some 7, .cvt .i64 (.t 6), none⟩, ⟨some 4, .mv (.t 7), none⟩])
 (.seq (.region [⟨some 8, .mv (.t 4), none⟩, ⟨some 9, .call 78 [(.t 8)], none⟩, ⟨some 10, .load true 2 (.t 1) (some 1), none⟩, ⟨some 11, .eqs false [.i64, .u64] (.t 9) (.t 10), none⟩])
 (.cond (.t 11)
 (.seq (.region [⟨some 12, .mv (.t 4), none⟩, ⟨some 2, .mv (.t 12), none⟩, ⟨some 3, .mv (.k (.int .i64 0)), none⟩])
 .ret)
 .skip)))
 (.seq (.region [⟨some 2, .mv (.k (.int .i64 0)), none⟩, ⟨some 3, .mv (.k (.int .i64 2)), none⟩])
 .ret)))⟩
theorem wide_Int.chk : chkFn Try.prog Try.f87 wide_Int.c = true := by kernel_rfl
theorem wide_Int.ent : ∀ args w, (callFunc 87 args).run Try.prog w = .ok (.enter 87 args) w := enters Try.func87 (by kernel_rfl) (by kernel_rfl)

/-- epact/day.in -/
def day_in.c : SF := ⟨9, [.t 2],
 (.seq (.region [⟨some 2, .mv (.k (.bool false)), none⟩])
 (.seq (.region [⟨some 3, .mv (.t 0), none⟩, ⟨some 4, .bin .geq (.t 3) (.k (.int .i64 (-1099511627776))), none⟩, ⟨some 5, .mv (.t 4), none⟩, ⟨some 6, .mv (.t 0), some (5, true)⟩, ⟨some 7, .bin .leq (.t 6) (.k (.int .i64 1099511627776)), some (5, true)⟩, ⟨some 8, .pick (.t 5) (.t 7) (.k (.bool false)), none⟩, ⟨some 2, .mv (.t 8), none⟩])
 .ret))⟩
theorem day_in.chk : chkFn Try.prog Try.f88 day_in.c = true := by kernel_rfl
theorem day_in.ent : ∀ args w, (callFunc 88 args).run Try.prog w = .ok (.enter 88 args) w := enters Try.func88 (by kernel_rfl) (by kernel_rfl)

/-- epact/epactref05.Small -/
def epactref05_Small.c : SF := ⟨25, [.t 2, .t 3],
 (.seq (.region [⟨some 1, .box (.t 0), none⟩, ⟨some 2, .mv (.k (.int .i64 0)), none⟩, ⟨some 3, .mv (.k (.bool false)), none⟩])
 (.seq (.region [⟨some 7, .load true 2 (.t 1) (some 1), none⟩, ⟨some 8, .call 91 [(.t 7)], none⟩, ⟨some 6, .mv (.t 8), none⟩, ⟨some 9, .ext (.t 6) 0, none⟩, ⟨some 10, .ext (.t 6) 1, none⟩, ⟨some 4, .alloc [.v (.int .i64 0), .v (.int .u64 0)], none⟩, ⟨none, .store 2 (.t 4) (.t 9) 4, none⟩, ⟨some 5, .mv (.t 10), none⟩])
 (.seq (.seq (.region [⟨some 11, .mv (.t 5), none⟩, ⟨some 12, .not (.t 11), none⟩, ⟨some 13, .mv (.t 12), none⟩, ⟨some 14, .load true 2 (.t 1) (some 1), some (13, false)⟩, ⟨some 15, .fld 1 (.t 4), some (13, false)⟩, ⟨some 16, .load false 1 (.t 15) (some 4), some (13, false)⟩, ⟨some 17, .cvt .i64 (.t 16), some (13, false)⟩, ⟨some 18, .call 25 [(.t 17)], some (13, false)⟩, ⟨some 19, .call 30 [(.t 14), (.t 18)], some (13, false)⟩, ⟨some 20, .not (.t 19), some (13, false)⟩, ⟨some 21, .pick (.t 13) (.k (.bool true)) (.t 20), none⟩])
 (.cond (.t 21)
 (.seq (.region [⟨some 2, .mv (.k (.int .i64 0)), none⟩, ⟨some 3, .mv (.k (.bool false)), none⟩])
 .ret)
 .skip))
 (.seq (.region [⟨some 22, .fld 1 (.t 4), none⟩, ⟨some 23, .load false 1 (.t 22) (some 4), none⟩, ⟨some 24, .cvt .i64 (.t 23), none⟩, ⟨some 2, .mv (.t 24), none⟩, ⟨some 3, .mv (.k (.bool true)), none⟩])
 .ret))))⟩
theorem epactref05_Small.chk : chkFn Try.prog Try.f89 epactref05_Small.c = true := by kernel_rfl
theorem epactref05_Small.ent : ∀ args w, (callFunc 89 args).run Try.prog w = .ok (.enter 89 args) w := enters Try.func89 (by kernel_rfl) (by kernel_rfl)

/-- epact/ratio.reckon -/
def ratio_reckon.l1 : SC :=
 (.forget [6, 7] (.seq (.region [⟨some 12, .bin .lss (.t 11) (.t 10), none⟩])
 (.seq (.cond (.t 12)
 .skip
 (.exit 0))
 (.seq (.block 1
 (.seq (.region [⟨some 13, .idx 4 (.t 9) (.t 11), none⟩, ⟨some 14, .load true 4 (.t 13) none, none⟩, ⟨some 6, .alloc [.v (.int .i64 0), .v (.int .u64 0), .v (.int .i64 0), .v (.int .u64 0)], none⟩, ⟨none, .store 4 (.t 6) (.t 14) 6, none⟩])
 (.seq (.region [⟨some 16, .fld 0 (.t 6), none⟩, ⟨some 17, .load true 2 (.t 16) (some 6), none⟩, ⟨some 18, .fld 2 (.t 6), none⟩, ⟨some 19, .load true 2 (.t 18) (some 6), none⟩, ⟨some 20, .call 85 [(.t 17), (.t 19)], none⟩, ⟨some 15, .mv (.t 20), none⟩, ⟨some 21, .ext (.t 15) 0, none⟩, ⟨some 22, .ext (.t 15) 1, none⟩, ⟨some 7, .alloc [.v (.int .i64 0), .v (.int .u64 0)], none⟩, ⟨none, .store 2 (.t 7) (.t 21) 7, none⟩, ⟨some 8, .mv (.t 22), none⟩])
 (.seq (.seq (.region [⟨some 23, .mv (.t 8), none⟩, ⟨some 24, .bin .neq (.t 23) (.k (.int .i64 0)), none⟩])
 (.cond (.t 24)
 (.seq (.region [⟨some 25, .mv (.t 8), none⟩, ⟨some 2, .mv (.nil .u8), none⟩, ⟨some 3, .mv (.t 25), none⟩])
 .ret)
 .skip))
 (.region [⟨some 26, .mv (.t 4), none⟩, ⟨some 27, .load true 2 (.t 7) (some 7), none⟩, ⟨some 28, .bldS ⟨24, 2, none⟩ [.v (.int .i64 0), .v (.int .u64 0)] 1 [(0, 2, (.t 27))], none⟩, ⟨some 29, .app ⟨24, 2, none⟩ (.t 26) (.t 28), none⟩, ⟨some 4, .mv (.t 29), none⟩])))))
 (.region [⟨some 30, .bin .add (.t 11) (.k (.int .i64 1)), none⟩, ⟨some 11, .mv (.t 30), none⟩])))))
def ratio_reckon.c : SF := ⟨32, [.t 2, .t 3],
 (.seq (.region [⟨some 2, .mv (.nil .u8), none⟩, ⟨some 3, .mv (.k (.int .i64 0)), none⟩])
 (.seq (.region [⟨some 4, .mv (.nil .u8), none⟩])
 (.seq (.seq (.region [⟨some 9, .mv (.t 0), none⟩, ⟨some 10, .len (.t 9), none⟩, ⟨some 11, .mv (.k (.int .i64 0)), none⟩])
 (.block 0
 (.loop ratio_reckon.l1)))
 (.seq (.region [⟨some 31, .mv (.t 4), none⟩, ⟨some 2, .mv (.t 31), none⟩, ⟨some 3, .mv (.k (.int .i64 0)), none⟩])
 .ret))))⟩
theorem ratio_reckon.chk : chkFn Try.prog Try.f90 ratio_reckon.c = true := by kernel_rfl
theorem ratio_reckon.ent : ∀ args w, (callFunc 90 args).run Try.prog w = .ok (.enter 90 args) w := enters Try.func90 (by kernel_rfl) (by kernel_rfl)

/-- epact/epactref01.Wide -/
def epactref01_Wide.c : SF := ⟨33, [.c 2 true 2, .t 3],
 (.seq (.region [⟨some 1, .box (.t 0), none⟩, ⟨some 2, .alloc [.v (.int .i64 0), .v (.int .u64 0)], none⟩, ⟨some 3, .mv (.k (.bool false)), none⟩])
 (.seq (.seq (.region [⟨some 5, .load true 2 (.t 1) (some 1), none⟩, ⟨some 6, .call 75 [(.k (.int .i64 127))], none⟩, ⟨some 7, .call 23 [(.t 5), (.t 6)], none⟩, ⟨some 8, .bin .geq (.t 7) (.k (.int .i64 0)), none⟩, ⟨some 9, .mv (.t 8), none⟩, ⟨some 10, .load true 2 (.t 1) (some 1), some (9, false)⟩, ⟨some 11, .call 75 [(.k (.int .i64 127))], some (9, false)⟩, ⟨some 12, .call 77 [(.t 11)], some (9, false)⟩, ⟨some 13, .call 23 [(.t 10), (.t 12)], some (9, false)⟩, ⟨some 14, .bin .lss (.t 13) (.k (.int .i64 0)), some (9, false)⟩, ⟨some 15, .pick (.t 9) (.k (.bool true)) (.t 14), none⟩])
 (.cond (.t 15)
 (.seq (.region [⟨some 16, .build [.v (.int .i64 0), .v (.int .u64 0)] [], none⟩, ⟨none, .store 2 (.t 2) (.t 16) 2, none⟩, ⟨some 3, .mv (.k (.bool false)), none⟩])
 .ret)
 .skip))
 (.seq (.region [⟨some 17, .fld 1 (.t 1), none⟩, ⟨some 18, .load false 1 (.t 17) (some 1), none⟩, ⟨some 4, .mv (.t 18), none⟩])
 (.seq (.seq (.region [⟨some 19, .fld 0 (.t 1), none⟩, ⟨some 20, .load false 1 (.t 19) (some 1), none⟩])
 (.cond (.t 20)
 (.region [⟨some 21, .call 75 [(.k (.int .i64 128))], none⟩, ⟨some 22, .fld 1 (.t 1), none⟩, ⟨some 23, .load false 1 (.t 22) (some 1), none⟩, ⟨some 24, .build [.v (.bool false), .nil .i64] [(1, 1, (.t 23))], none⟩, ⟨some 25, .call 47 [(.t 21), (.t 24)], none⟩, ⟨some 26, .part false 1 1 (.t 25), none⟩, ⟨some 4, .mv (.t 26), none⟩])
 .skip))
 (.seq (.region [⟨some 27, .mv (.t 4), none⟩, ⟨some 28, .call 110 [(.t 27), (.k (.int .i64 4))], none⟩, ⟨some 29, .cvt .i64 (.t 28), none⟩, ⟨some 30, .mv (.t 4), none⟩, ⟨some 31, .call 110 [(.t 30), (.k (.int .i64 0))], none⟩, ⟨some 32, .build [.v (.int .i64 0), .v (.int .u64 0)] [(0, 1, (.t 29)), (1, 1, (.t 31))], none⟩, ⟨none, .store 2 (.t 2) (.t 32) 2, none⟩, ⟨some 3, .mv (.k (.bool true)), none⟩])
 .ret)))))⟩
theorem epactref01_Wide.chk : chkFn Try.prog Try.f91 epactref01_Wide.c = true := by kernel_rfl
theorem epactref01_Wide.ent : ∀ args w, (callFunc 91 args).run Try.prog w = .ok (.enter 91 args) w := enters Try.func91 (by kernel_rfl) (by kernel_rfl)

/-- epact/day.plain -/
def day_plain.c : SF := ⟨21, [.t 2],
 (.seq (.region [⟨some 1, .box (.t 0), none⟩, ⟨some 2, .mv (.k (.bool false)), none⟩])
 (.seq (.region [⟨some 3, .fld 1 (.t 1), none⟩, ⟨some 4, .load false 1 (.t 3) (some 1), none⟩, ⟨some 5, .bin .geq (.t 4) (.k (.int .i64 0)), none⟩, ⟨some 6, .mv (.t 5), none⟩, ⟨some 7, .fld 1 (.t 1), some (6, true)⟩, ⟨some 8, .load false 1 (.t 7) (some 1), some (6, true)⟩, ⟨some 9, .bin .lss (.t 8) (.k (.int .i64 86400)), some (6, true)⟩, ⟨some 10, .pick (.t 6) (.t 9) (.k (.bool false)), none⟩, ⟨some 11, .mv (.t 10), none⟩, ⟨some 12, .fld 2 (.t 1), some (11, true)⟩, ⟨some 13, .load false 1 (.t 12) (some 1), some (11, true)⟩, ⟨some 14, .bin .geq (.t 13) (.k (.int .i64 0)), some (11, true)⟩, ⟨some 15, .pick (.t 11) (.t 14) (.k (.bool false)), none⟩, ⟨some 16, .mv (.t 15), none⟩, ⟨some 17, .fld 2 (.t 1), some (16, true)⟩, ⟨some 18, .load false 1 (.t 17) (some 1), some (16, true)⟩, ⟨some 19, .bin .lss (.t 18) (.k (.int .i64 1000000000000000000)), some (16, true)⟩, ⟨some 20, .pick (.t 16) (.t 19) (.k (.bool false)), none⟩, ⟨some 2, .mv (.t 20), none⟩])
 .ret))⟩
theorem day_plain.chk : chkFn Try.prog Try.f92 day_plain.c = true := by kernel_rfl
theorem day_plain.ent : ∀ args w, (callFunc 92 args).run Try.prog w = .ok (.enter 92 args) w := enters Try.func92 (by kernel_rfl) (by kernel_rfl)

/-- epact/frac.code -/
def frac_code.c : SF := ⟨19, [.c 4 true 2],
 (.seq (.region [⟨some 4, .alloc [.v (.int .i64 0), .v (.int .u64 0)], none⟩])
 (.seq (.region [⟨some 9, .mv (.t 0), none⟩, ⟨some 10, .call 78 [(.t 9)], none⟩, ⟨some 11, .mv (.t 1), none⟩, ⟨some 12, .call 95 [(.t 11)], none⟩, ⟨some 13, .call 78 [(.k (.int .i64 1000000000000000000))], none⟩, ⟨some 14, .call 96 [(.t 10), (.t 12), (.t 13)], none⟩, ⟨some 8, .mv (.t 14), none⟩, ⟨some 15, .ext (.t 8) 0, none⟩, ⟨some 16, .ext (.t 8) 1, none⟩, ⟨some 17, .ext (.t 8) 2, none⟩, ⟨some 5, .alloc [.v (.int .i64 0), .v (.int .u64 0)], none⟩, ⟨some 6, .alloc [.v (.int .i64 0), .v (.int .u64 0)], none⟩, ⟨none, .store 2 (.t 5) (.t 15) 5, none⟩, ⟨none, .store 2 (.t 6) (.t 16) 6, none⟩, ⟨some 7, .mv (.t 17), none⟩])
 (.seq (.region [⟨some 18, .load true 2 (.t 5) (some 5), none⟩, ⟨none, .store 2 (.t 4) (.t 18) 4, none⟩])
 .ret)))⟩
theorem frac_code.chk : chkFn Try.prog Try.f93 frac_code.c = true := by kernel_rfl
theorem frac_code.ent : ∀ args w, (callFunc 93 args).run Try.prog w = .ok (.enter 93 args) w := enters Try.func93 (by kernel_rfl) (by kernel_rfl)

/-- epact/frac.below -/
def frac_below.c : SF := ⟨14, [.t 4],
 (.seq (.region [⟨some 2, .box (.t 0), none⟩, ⟨some 3, .box (.t 1), none⟩, ⟨some 4, .mv (.k (.bool false)), none⟩])
 (.seq (.region [⟨some 5, .fld 0 (.t 2), none⟩, ⟨some 6, .load false 1 (.t 5) (some 2), none⟩, ⟨some 7, .bin .geq (.t 6) (.k (.int .i64 0)), none⟩, ⟨some 8, .mv (.t 7), none⟩, ⟨some 9, .load true 2 (.t 2) (some 2), some (8, true)⟩, ⟨some 10, .load true 2 (.t 3) (some 3), some (8, true)⟩, ⟨some 11, .call 71 [(.t 9), (.t 10)], some (8, true)⟩, ⟨some 12, .bin .lss (.t 11) (.k (.int .i64 0)), some (8, true)⟩, ⟨some 13, .pick (.t 8) (.t 12) (.k (.bool false)), none⟩, ⟨some 4, .mv (.t 13), none⟩])
 .ret))⟩
theorem frac_below.chk : chkFn Try.prog Try.f94 frac_below.c = true := by kernel_rfl
theorem frac_below.ent : ∀ args w, (callFunc 94 args).run Try.prog w = .ok (.enter 94 args) w := enters Try.func94 (by kernel_rfl) (by kernel_rfl)

/-- epact/frac.power -/
def frac_power.l1 : SC :=
 (.seq (.region [⟨some 7, .bin .lss (.t 6) (.t 5), none⟩])
 (.seq (.cond (.t 7)
 .skip
 (.exit 0))
 (.seq (.block 1
 (.region [⟨some 9, .load true 2 (.t 3) (some 3), none⟩, ⟨some 10, .call 78 [(.k (.int .i64 256))], none⟩, ⟨some 11, .call 85 [(.t 9), (.t 10)], none⟩, ⟨some 8, .mv (.t 11), none⟩, ⟨some 12, .ext (.t 8) 0, none⟩, ⟨some 13, .ext (.t 8) 1, none⟩, ⟨none, .store 2 (.t 3) (.t 12) 3, none⟩]))
 (.region [⟨some 14, .bin .add (.t 6) (.k (.int .i64 1)), none⟩, ⟨some 6, .mv (.t 14), none⟩]))))
def frac_power.c : SF := ⟨16, [.c 2 true 2],
 (.seq (.region [⟨some 2, .alloc [.v (.int .i64 0), .v (.int .u64 0)], none⟩])
 (.seq (.region [⟨some 4, .call 78 [(.k (.int .i64 1))], none⟩, ⟨some 3, .alloc [.v (.int .i64 0), .v (.int .u64 0)], none⟩, ⟨none, .store 2 (.t 3) (.t 4) 3, none⟩])
 (.seq (.seq (.region [⟨some 5, .mv (.t 0), none⟩, ⟨some 6, .mv (.k (.int .i64 0)), none⟩])
 (.block 0
 (.loop frac_power.l1)))
 (.seq (.region [⟨some 15, .load true 2 (.t 3) (some 3), none⟩, ⟨none, .store 2 (.t 2) (.t 15) 2, none⟩])
 .ret))))⟩
theorem frac_power.chk : chkFn Try.prog Try.f95 frac_power.c = true := by kernel_rfl
theorem frac_power.ent : ∀ args w, (callFunc 95 args).run Try.prog w = .ok (.enter 95 args) w := enters Try.func95 (by kernel_rfl) (by kernel_rfl)

/-- epact/wide.MulDiv -/
def wide_MulDiv.c : SF := ⟨91, [.c 6 true 2, .c 7 true 2, .t 8],
 (.seq (.region [⟨some 3, .box (.t 0), none⟩, ⟨some 4, .box (.t 1), none⟩, ⟨some 5, .box (.t 2), none⟩, ⟨some 6, .alloc [.v (.int .i64 0), .v (.int .u64 0)], none⟩, ⟨some 7, .alloc [.v (.int .i64 0), .v (.int .u64 0)], none⟩, ⟨some 8, .mv (.k (.int .i64 0)), none⟩])
 (.seq (.seq (.region [⟨some 17, .load true 2 (.t 5) (some 5), none⟩, ⟨some 18, .call 111 [(.t 17)], none⟩, ⟨some 19, .not (.t 18), none⟩])
 (.cond (.t 19)
 (.seq (.region [⟨some 20, .load true 2 (.t 6) (some 6), none⟩, ⟨some 21, .load true 2 (.t 7) (some 7), none⟩, ⟨none, .store 2 (.t 6) (.t 20) 6, none⟩, ⟨none, .store 2 (.t 7) (.t 21) 7, none⟩, ⟨some 8, .mv (.k (.int .i64 3)), none⟩])
 .ret)
 .skip))
 (.seq (.region [⟨some 23, .load true 2 (.t 3) (some 3), none⟩, ⟨some 24, .call 108 [(.t 23)], none⟩, ⟨some 25, .load true 2 (.t 4) (some 4), none⟩, ⟨some 26, .call 108 [(.t 25)], none⟩, ⟨some 27, .call 107 [(.t 24), (.t 26)], none⟩, ⟨some 22, .mv (.t 27), none⟩, ⟨some 28, .ext (.t 22) 0, none⟩, ⟨some 29, .ext (.t 22) 1, none⟩, ⟨some 9, .alloc [.v (.int .u64 0), .v (.int .u64 0)], none⟩, ⟨some 10, .alloc [.v (.int .u64 0), .v (.int .u64 0)], none⟩, ⟨none, .store 2 (.t 9) (.t 28) 9, none⟩, ⟨none, .store 2 (.t 10) (.t 29) 10, none⟩])
 (.seq (.region [⟨some 31, .load true 2 (.t 9) (some 9), none⟩, ⟨some 32, .load true 2 (.t 10) (some 10), none⟩, ⟨some 33, .load true 2 (.t 5) (some 5), none⟩, ⟨some 34, .call 105 [(.t 33)], none⟩, ⟨some 35, .call 112 [(.t 31), (.t 32), (.t 34)], none⟩, ⟨some 30, .mv (.t 35), none⟩, ⟨some 36, .ext (.t 30) 0, none⟩, ⟨some 37, .ext (.t 30) 1, none⟩, ⟨some 38, .ext (.t 30) 2, none⟩, ⟨some 11, .alloc [.v (.int .u64 0), .v (.int .u64 0)], none⟩, ⟨some 12, .alloc [.v (.int .u64 0), .v (.int .u64 0)], none⟩, ⟨none, .store 2 (.t 11) (.t 36) 11, none⟩, ⟨none, .store 2 (.t 12) (.t 37) 12, none⟩, ⟨some 13, .mv (.t 38), none⟩])
 (.seq (.seq (.region [⟨some 39, .mv (.t 13), none⟩, ⟨some 40, .not (.t 39), none⟩])
 (.cond (.t 40)
 (.seq (.region [⟨some 41, .load true 2 (.t 6) (some 6), none⟩, ⟨some 42, .load true 2 (.t 7) (some 7), none⟩, ⟨none, .store 2 (.t 6) (.t 41) 6, none⟩, ⟨none, .store 2 (.t 7) (.t 42) 7, none⟩, ⟨some 8, .mv (.k (.int .i64 2)), none⟩])
 .ret)
 .skip))
 (.seq (.region [⟨some 43, .fld 0 (.t 3), none⟩, ⟨some 44, .load false 1 (.t 43) (some 3), none⟩, ⟨some 45, .bin .lss (.t 44) (.k (.int .i64 0)), none⟩, ⟨some 46, .fld 0 (.t 4), none⟩, ⟨some 47, .load false 1 (.t 46) (some 4), none⟩, ⟨some 48, .bin .lss (.t 47) (.k (.int .i64 0)), none⟩, ⟨some 49, .eqb true (.t 45) (.t 48), none⟩, ⟨some 14, .mv (.t 49), none⟩])
 (.seq (.region [⟨some 51, .load true 2 (.t 11) (some 11), none⟩, ⟨some 52, .mv (.t 14), none⟩, ⟨some 53, .call 109 [(.t 51), (.t 52)], none⟩, ⟨some 50, .mv (.t 53), none⟩, ⟨some 54, .ext (.t 50) 0, none⟩, ⟨some 55, .ext (.t 50) 1, none⟩, ⟨none, .store 2 (.t 6) (.t 54) 6, none⟩, ⟨some 8, .mv (.t 55), none⟩])
 (.seq (.seq (.region [⟨some 56, .mv (.t 8), none⟩, ⟨some 57, .bin .neq (.t 56) (.k (.int .i64 0)), none⟩])
 (.cond (.t 57)
 (.seq (.region [⟨some 58, .load true 2 (.t 6) (some 6), none⟩, ⟨some 59, .load true 2 (.t 7) (some 7), none⟩, ⟨some 60, .mv (.t 8), none⟩, ⟨none, .store 2 (.t 6) (.t 58) 6, none⟩, ⟨none, .store 2 (.t 7) (.t 59) 7, none⟩, ⟨some 8, .mv (.t 60), none⟩])
 .ret)
 .skip))
 (.seq (.seq (.region [⟨some 61, .mv (.t 14), none⟩, ⟨some 62, .not (.t 61), none⟩, ⟨some 63, .mv (.t 62), none⟩, ⟨some 64, .load true 2 (.t 12) (some 12), some (63, false)⟩, ⟨some 65, .build [.v (.int .u64 0), .v (.int .u64 0)] [], some (63, false)⟩, ⟨some 66, .eqs false [.u64, .u64] (.t 64) (.t 65), some (63, false)⟩, ⟨some 67, .pick (.t 63) (.k (.bool true)) (.t 66), none⟩])
 (.cond (.t 67)
 (.seq (.region [⟨some 68, .load true 2 (.t 6) (some 6), none⟩, ⟨some 69, .load true 2 (.t 12) (some 12), none⟩, ⟨some 70, .call 106 [(.t 69)], none⟩, ⟨none, .store 2 (.t 6) (.t 68) 6, none⟩, ⟨none, .store 2 (.t 7) (.t 70) 7, none⟩, ⟨some 8, .mv (.k (.int .i64 0)), none⟩])
 .ret)
 .skip))
 (.seq (.seq (.region [⟨some 71, .load true 2 (.t 6) (some 6), none⟩, ⟨some 72, .call 113 [(.t 71)], none⟩])
 (.cond (.t 72)
 (.seq (.region [⟨some 73, .build [.v (.int .i64 0), .v (.int .u64 0)] [], none⟩, ⟨some 74, .build [.v (.int .i64 0), .v (.int .u64 0)] [], none⟩, ⟨none, .store 2 (.t 6) (.t 73) 6, none⟩, ⟨none, .store 2 (.t 7) (.t 74) 7, none⟩, ⟨some 8, .mv (.k (.int .i64 2)), none⟩])
 .ret)
 .skip))
 (.seq (.region [⟨some 76, .load true 2 (.t 6) (some 6), none⟩, ⟨some 77, .call 78 [(.k (.int .i64 1))], none⟩, ⟨some 78, .call 99 [(.t 76), (.t 77)], none⟩, ⟨some 75, .mv (.t 78), none⟩, ⟨some 79, .ext (.t 75) 0, none⟩, ⟨some 80, .ext (.t 75) 1, none⟩, ⟨none, .store 2 (.t 6) (.t 79) 6, none⟩])
 (.seq (.region [⟨some 82, .load true 2 (.t 5) (some 5), none⟩, ⟨some 83, .call 105 [(.t 82)], none⟩, ⟨some 84, .load true 2 (.t 12) (some 12), none⟩, ⟨some 85, .call 114 [(.t 83), (.t 84)], none⟩, ⟨some 81, .mv (.t 85), none⟩, ⟨some 86, .ext (.t 81) 0, none⟩, ⟨some 87, .ext (.t 81) 1, none⟩, ⟨some 15, .alloc [.v (.int .u64 0), .v (.int .u64 0)], none⟩, ⟨none, .store 2 (.t 15) (.t 86) 15, none⟩, ⟨some 16, .mv (.t 87), none⟩])
 (.seq (.region [⟨some 88, .load true 2 (.t 6) (some 6), none⟩, ⟨some 89, .load true 2 (.t 15) (some 15), none⟩, ⟨some 90, .call 106 [(.t 89)], none⟩, ⟨none, .store 2 (.t 6) (.t 88) 6, none⟩, ⟨none, .store 2 (.t 7) (.t 90) 7, none⟩, ⟨some 8, .mv (.k (.int .i64 0)), none⟩])
 .ret)))))))))))))⟩
theorem wide_MulDiv.chk : chkFn Try.prog Try.f96 wide_MulDiv.c = true := by kernel_rfl
theorem wide_MulDiv.ent : ∀ args w, (callFunc 96 args).run Try.prog w = .ok (.enter 96 args) w := enters Try.func96 (by kernel_rfl) (by kernel_rfl)

/-- epact/scale.zero -/
def scale_zero.c : SF := ⟨18, [.c 2 true 2, .t 3],
 (.seq (.region [⟨some 2, .alloc [.v (.int .i64 0), .v (.int .u64 0)], none⟩, ⟨some 3, .mv (.k (.int .i64 0)), none⟩])
 (.seq (.region [⟨some 7, .mv (.t 0), none⟩, ⟨some 8, .call 115 [(.t 7)], none⟩, ⟨some 6, .mv (.t 8), none⟩, ⟨some 9, .ext (.t 6) 0, none⟩, ⟨some 10, .ext (.t 6) 1, none⟩, ⟨some 4, .alloc [.v (.int .i64 0), .v (.int .i64 0), .v (.int .i64 0)], none⟩, ⟨none, .store 3 (.t 4) (.t 9) 4, none⟩, ⟨some 5, .mv (.t 10), none⟩])
 (.seq (.seq (.region [⟨some 11, .mv (.t 5), none⟩, ⟨some 12, .not (.t 11), none⟩])
 (.cond (.t 12)
 (.seq (.region [⟨some 13, .build [.v (.int .i64 0), .v (.int .u64 0)] [], none⟩, ⟨none, .store 2 (.t 2) (.t 13) 2, none⟩, ⟨some 3, .mv (.k (.int .i64 1)), none⟩])
 .ret)
 .skip))
 (.seq (.region [⟨some 14, .load true 3 (.t 4) (some 4), none⟩, ⟨some 15, .call 36 [(.t 14)], none⟩, ⟨some 16, .ext (.t 15) 0, none⟩, ⟨some 17, .ext (.t 15) 1, none⟩, ⟨none, .store 2 (.t 2) (.t 16) 2, none⟩, ⟨some 3, .mv (.t 17), none⟩])
 .ret))))⟩
theorem scale_zero.chk : chkFn Try.prog Try.f97 scale_zero.c = true := by kernel_rfl
theorem scale_zero.ent : ∀ args w, (callFunc 97 args).run Try.prog w = .ok (.enter 97 args) w := enters Try.func97 (by kernel_rfl) (by kernel_rfl)

/-- epact/scale.checked -/
def scale_checked.c : SF := ⟨22, [.c 4 true 2, .t 5],
 (.seq (.region [⟨some 2, .box (.t 0), none⟩, ⟨some 4, .alloc [.v (.int .i64 0), .v (.int .u64 0)], none⟩, ⟨some 5, .mv (.k (.int .i64 0)), none⟩])
 (.seq (.seq (.region [⟨some 8, .mv (.t 1), none⟩, ⟨some 9, .bin .neq (.t 8) (.k (.int .i64 0)), none⟩])
 (.cond (.t 9)
 (.seq (.region [⟨some 10, .build [.v (.int .i64 0), .v (.int .u64 0)] [], none⟩, ⟨some 11, .mv (.t 1), none⟩, ⟨none, .store 2 (.t 4) (.t 10) 4, none⟩, ⟨some 5, .mv (.t 11), none⟩])
 .ret)
 .skip))
 (.seq (.seq (.region [⟨some 13, .load true 2 (.t 2) (some 2), none⟩, ⟨some 14, .call 39 [(.t 13)], none⟩, ⟨some 12, .mv (.t 14), none⟩, ⟨some 15, .ext (.t 12) 0, none⟩, ⟨some 16, .ext (.t 12) 1, none⟩, ⟨some 6, .alloc [.v (.int .i64 0), .v (.int .i64 0), .v (.int .i64 0)], none⟩, ⟨none, .store 3 (.t 6) (.t 15) 6, none⟩, ⟨some 7, .mv (.t 16), none⟩])
 (.seq (.region [⟨some 17, .mv (.t 7), none⟩, ⟨some 18, .bin .neq (.t 17) (.k (.int .i64 0)), none⟩])
 (.cond (.t 18)
 (.seq (.region [⟨some 19, .build [.v (.int .i64 0), .v (.int .u64 0)] [], none⟩, ⟨some 20, .mv (.t 7), none⟩, ⟨none, .store 2 (.t 4) (.t 19) 4, none⟩, ⟨some 5, .mv (.t 20), none⟩])
 .ret)
 .skip)))
 (.seq (.region [⟨some 21, .load true 2 (.t 2) (some 2), none⟩, ⟨none, .store 2 (.t 4) (.t 21) 4, none⟩, ⟨some 5, .mv (.k (.int .i64 0)), none⟩])
 .ret))))⟩
theorem scale_checked.chk : chkFn Try.prog Try.f98 scale_checked.c = true := by kernel_rfl
theorem scale_checked.ent : ∀ args w, (callFunc 98 args).run Try.prog w = .ok (.enter 98 args) w := enters Try.func98 (by kernel_rfl) (by kernel_rfl)

/-- epact/wide.Sub -/
def wide_Sub.c : SF := ⟨37, [.c 4 true 2, .t 5],
 (.seq (.region [⟨some 2, .box (.t 0), none⟩, ⟨some 3, .box (.t 1), none⟩, ⟨some 4, .alloc [.v (.int .i64 0), .v (.int .u64 0)], none⟩, ⟨some 5, .mv (.k (.int .i64 0)), none⟩])
 (.seq (.region [⟨some 10, .load true 2 (.t 2) (some 2), none⟩, ⟨some 11, .call 105 [(.t 10)], none⟩, ⟨some 12, .load true 2 (.t 3) (some 3), none⟩, ⟨some 13, .call 105 [(.t 12)], none⟩, ⟨some 14, .call 114 [(.t 11), (.t 13)], none⟩, ⟨some 9, .mv (.t 14), none⟩, ⟨some 15, .ext (.t 9) 0, none⟩, ⟨some 16, .ext (.t 9) 1, none⟩, ⟨some 6, .alloc [.v (.int .u64 0), .v (.int .u64 0)], none⟩, ⟨none, .store 2 (.t 6) (.t 15) 6, none⟩, ⟨some 7, .mv (.t 16), none⟩])
 (.seq (.region [⟨some 17, .load true 2 (.t 6) (some 6), none⟩, ⟨some 18, .call 106 [(.t 17)], none⟩, ⟨some 8, .alloc [.v (.int .i64 0), .v (.int .u64 0)], none⟩, ⟨none, .store 2 (.t 8) (.t 18) 8, none⟩])
 (.seq (.seq (.region [⟨some 19, .fld 0 (.t 2), none⟩, ⟨some 20, .load false 1 (.t 19) (some 2), none⟩, ⟨some 21, .bin .shr (.t 20) (.k (.int .u64 63)), none⟩, ⟨some 22, .fld 0 (.t 3), none⟩, ⟨some 23, .load false 1 (.t 22) (some 3), none⟩, ⟨some 24, .bin .shr (.t 23) (.k (.int .u64 63)), none⟩, ⟨some 25, .bin .neq (.t 21) (.t 24), none⟩, ⟨some 26, .mv (.t 25), none⟩, ⟨some 27, .fld 0 (.t 8), some (26, true)⟩, ⟨some 28, .load false 1 (.t 27) (some 8), some (26, true)⟩, ⟨some 29, .bin .shr (.t 28) (.k (.int .u64 63)), some (26, true)⟩, ⟨some 30, .fld 0 (.t 2), some (26, true)⟩, ⟨some 31, .load false 1 (.t 30) (some 2), some (26, true)⟩, ⟨some 32, .bin .shr (.t 31) (.k (.int .u64 63)), some (26, true)⟩, ⟨some 33, .bin .neq (.t 29) (.t 32), some (26, true)⟩, ⟨some 34, .pick (.t 26) (.t 33) (.k (.bool false)), none⟩])
 (.cond (.t 34)
 (.seq (.region [⟨some 35, .build [.v (.int .i64 0), .v (.int .u64 0)] [], none⟩, ⟨none, .store 2 (.t 4) (.t 35) 4, none⟩, ⟨some 5, .mv (.k (.int .i64 2)), none⟩])
 .ret)
 .skip))
 (.seq (.region [⟨some 36, .load true 2 (.t 8) (some 8), none⟩, ⟨none, .store 2 (.t 4) (.t 36) 4, none⟩, ⟨some 5, .mv (.k (.int .i64 0)), none⟩])
 .ret)))))⟩
theorem wide_Sub.chk : chkFn Try.prog Try.f99 wide_Sub.c = true := by kernel_rfl
theorem wide_Sub.ent : ∀ args w, (callFunc 99 args).run Try.prog w = .ok (.enter 99 args) w := enters Try.func99 (by kernel_rfl) (by kernel_rfl)

/-- slices.Concat[[]byte,byte] -/
def slices_Concat_byte_byte.l1 : SC :=
 (.seq (.region [⟨some 12, .bin .lss (.t 11) (.t 10), none⟩])
 (.seq (.cond (.t 12)
 .skip
 (.exit 0))
 (.seq (.block 1
 (.seq (.region [⟨some 13, .idx 1 (.t 9) (.t 11), none⟩, ⟨some 14, .load false 1 (.t 13) none, none⟩, ⟨some 5, .mv (.t 14), none⟩])
 (.seq (.region [⟨some 15, .mv (.t 3), none⟩, ⟨some 16, .mv (.t 5), none⟩, ⟨some 17, .len (.t 16), none⟩, ⟨some 18, .bin .add (.t 15) (.t 17), none⟩, ⟨some 3, .mv (.t 18), none⟩])
 (.seq (.region [⟨some 19, .mv (.t 3), none⟩, ⟨some 20, .bin .lss (.t 19) (.k (.int .i64 0)), none⟩])
 (.cond (.t 20)
 .bad
 .skip)))))
 (.region [⟨some 22, .bin .add (.t 11) (.k (.int .i64 1)), none⟩, ⟨some 11, .mv (.t 22), none⟩]))))
def slices_Concat_byte_byte.l2 : SC :=
 (.seq (.region [⟨some 28, .bin .lss (.t 27) (.t 26), none⟩])
 (.seq (.cond (.t 28)
 .skip
 (.exit 2))
 (.seq (.block 3
 (.seq (.region [⟨some 29, .idx 1 (.t 25) (.t 27), none⟩, ⟨some 30, .load false 1 (.t 29) none, none⟩, ⟨some 8, .mv (.t 30), none⟩])
 (.region [⟨some 31, .mv (.t 6), none⟩, ⟨some 32, .mv (.t 8), none⟩, ⟨some 33, .app ⟨5, 1, some .u8⟩ (.t 31) (.t 32), none⟩, ⟨some 6, .mv (.t 33), none⟩])))
 (.region [⟨some 34, .bin .add (.t 27) (.k (.int .i64 1)), none⟩, ⟨some 27, .mv (.t 34), none⟩]))))
def slices_Concat_byte_byte.c : SF := ⟨36, [.t 2],
 (.seq (.region [⟨some 2, .mv (.nil .u8), none⟩])
 (.seq (.region [⟨some 3, .mv (.k (.int .i64 0)), none⟩])
 (.seq (.seq (.region [⟨some 9, .mv (.t 0), none⟩, ⟨some 10, .len (.t 9), none⟩, ⟨some 11, .mv (.k (.int .i64 0)), none⟩])
 (.block 0
 (.loop slices_Concat_byte_byte.l1)))
 (.seq (.region [⟨some 23, .mv (.t 3), none⟩, ⟨some 24, .callF 116 [(.nil .u8), (.t 23)], none⟩, ⟨some 6, .mv (.t 24), none⟩])
 (.seq (.seq (.region [⟨some 25, .mv (.t 0), none⟩, ⟨some 26, .len (.t 25), none⟩, ⟨some 27, .mv (.k (.int .i64 0)), none⟩])
 (.block 2
 (.loop slices_Concat_byte_byte.l2)))
 (.seq (.region [⟨some 35, .mv (.t 6), none⟩, ⟨some 2, .mv (.t 35), none⟩])
 .ret))))))⟩
theorem slices_Concat_byte_byte.chk : chkFn Try.prog Try.f100 slices_Concat_byte_byte.c = true := by kernel_rfl
theorem slices_Concat_byte_byte.ent : ∀ args w, (callFunc 100 args).run Try.prog w = .ok (.enter 100 args) w := enters Try.func100 (by kernel_rfl) (by kernel_rfl)

/-- epact/epactref19.Cut -/
def epactref19_Cut.c : SF := ⟨21, [.c 2 true 2, .t 3],
 (.seq (.region [⟨some 1, .box (.t 0), none⟩, ⟨some 2, .alloc [.v (.bool false), .nil .i64], none⟩, ⟨some 3, .mv (.k (.int .i64 0)), none⟩])
 (.seq (.region [⟨some 9, .load true 2 (.t 1) (some 1), none⟩, ⟨some 10, .call 25 [(.k (.int .i64 1000000000000000000))], none⟩, ⟨some 11, .call 29 [(.t 9), (.t 10)], none⟩, ⟨some 8, .mv (.t 11), none⟩, ⟨some 12, .ext (.t 8) 0, none⟩, ⟨some 13, .ext (.t 8) 1, none⟩, ⟨some 4, .alloc [.v (.bool false), .nil .i64], none⟩, ⟨some 5, .alloc [.v (.bool false), .nil .i64], none⟩, ⟨none, .store 2 (.t 4) (.t 12) 4, none⟩, ⟨none, .store 2 (.t 5) (.t 13) 5, none⟩])
 (.seq (.region [⟨some 15, .load true 2 (.t 5) (some 5), none⟩, ⟨some 16, .call 89 [(.t 15)], none⟩, ⟨some 14, .mv (.t 16), none⟩, ⟨some 17, .ext (.t 14) 0, none⟩, ⟨some 18, .ext (.t 14) 1, none⟩, ⟨some 6, .mv (.t 17), none⟩, ⟨some 7, .mv (.t 18), none⟩])
 (.seq (.region [⟨some 19, .load true 2 (.t 4) (some 4), none⟩, ⟨some 20, .mv (.t 6), none⟩, ⟨none, .store 2 (.t 2) (.t 19) 2, none⟩, ⟨some 3, .mv (.t 20), none⟩])
 .ret))))⟩
theorem epactref19_Cut.chk : chkFn Try.prog Try.f101 epactref19_Cut.c = true := by kernel_rfl
theorem epactref19_Cut.ent : ∀ args w, (callFunc 101 args).run Try.prog w = .ok (.enter 101 args) w := enters Try.func101 (by kernel_rfl) (by kernel_rfl)

/-- epact/epactref19.join -/
def epactref19_join.c : SF := ⟨10, [.t 4],
 (.seq (.region [⟨some 4, .mv (.nil .u8), none⟩])
 (.seq (.region [⟨some 5, .bldS ⟨5, 1, some .u8⟩ [] 0 [], none⟩, ⟨some 6, .mv (.t 0), none⟩, ⟨some 7, .app ⟨5, 1, some .u8⟩ (.t 5) (.t 6), none⟩, ⟨some 8, .mv (.t 1), none⟩, ⟨some 9, .app ⟨5, 1, some .u8⟩ (.t 7) (.t 8), none⟩, ⟨some 4, .mv (.t 9), none⟩])
 .ret))⟩
theorem epactref19_join.chk : chkFn Try.prog Try.f102 epactref19_join.c = true := by kernel_rfl
theorem epactref19_join.ent : ∀ args w, (callFunc 102 args).run Try.prog w = .ok (.enter 102 args) w := enters Try.func102 (by kernel_rfl) (by kernel_rfl)

/-- epact/epactref19.Seconds -/
def epactref19_Seconds.c : SF := ⟨6, [.c 2 true 2],
 (.seq (.region [⟨some 1, .box (.t 0), none⟩, ⟨some 2, .alloc [.v (.bool false), .nil .i64], none⟩])
 (.seq (.region [⟨some 3, .load true 2 (.t 1) (some 1), none⟩, ⟨some 4, .call 25 [(.k (.int .i64 1000000000000000000))], none⟩, ⟨some 5, .call 34 [(.t 3), (.t 4)], none⟩, ⟨none, .store 2 (.t 2) (.t 5) 2, none⟩])
 .ret))⟩
theorem epactref19_Seconds.chk : chkFn Try.prog Try.f103 epactref19_Seconds.c = true := by kernel_rfl
theorem epactref19_Seconds.ent : ∀ args w, (callFunc 103 args).run Try.prog w = .ok (.enter 103 args) w := enters Try.func103 (by kernel_rfl) (by kernel_rfl)

/-- epact/limb.Add -/
def limb_Add.c : SF := ⟨31, [.c 4 true 2, .t 5],
 (.seq (.region [⟨some 2, .box (.t 0), none⟩, ⟨some 3, .box (.t 1), none⟩, ⟨some 4, .alloc [.v (.int .u64 0), .v (.int .u64 0)], none⟩, ⟨some 5, .mv (.k (.bool false)), none⟩])
 (.seq (.region [⟨some 10, .fld 1 (.t 2), none⟩, ⟨some 11, .load false 1 (.t 10) (some 2), none⟩, ⟨some 12, .fld 1 (.t 3), none⟩, ⟨some 13, .load false 1 (.t 12) (some 3), none⟩, ⟨some 14, .call 117 [(.t 11), (.t 13), (.k (.int .u64 0))], none⟩, ⟨some 9, .mv (.t 14), none⟩, ⟨some 15, .ext (.t 9) 0, none⟩, ⟨some 16, .ext (.t 9) 1, none⟩, ⟨some 6, .mv (.t 15), none⟩, ⟨some 7, .mv (.t 16), none⟩])
 (.seq (.region [⟨some 18, .fld 0 (.t 2), none⟩, ⟨some 19, .load false 1 (.t 18) (some 2), none⟩, ⟨some 20, .fld 0 (.t 3), none⟩, ⟨some 21, .load false 1 (.t 20) (some 3), none⟩, ⟨some 22, .mv (.t 7), none⟩, ⟨some 23, .call 117 [(.t 19), (.t 21), (.t 22)], none⟩, ⟨some 17, .mv (.t 23), none⟩, ⟨some 24, .ext (.t 17) 0, none⟩, ⟨some 25, .ext (.t 17) 1, none⟩, ⟨some 8, .mv (.t 24), none⟩, ⟨some 7, .mv (.t 25), none⟩])
 (.seq (.region [⟨some 26, .mv (.t 8), none⟩, ⟨some 27, .mv (.t 6), none⟩, ⟨some 28, .build [.v (.int .u64 0), .v (.int .u64 0)] [(0, 1, (.t 26)), (1, 1, (.t 27))], none⟩, ⟨some 29, .mv (.t 7), none⟩, ⟨some 30, .bin .eql (.t 29) (.k (.int .u64 1)), none⟩, ⟨none, .store 2 (.t 4) (.t 28) 4, none⟩, ⟨some 5, .mv (.t 30), none⟩])
 .ret))))⟩
theorem limb_Add.chk : chkFn Try.prog Try.f104 limb_Add.c = true := by kernel_rfl
theorem limb_Add.ent : ∀ args w, (callFunc 104 args).run Try.prog w = .ok (.enter 104 args) w := enters Try.func104 (by kernel_rfl) (by kernel_rfl)

/-- epact/wide.bits -/
def wide_bits.c : SF := ⟨9, [.c 2 true 2],
 (.seq (.region [⟨some 1, .box (.t 0), none⟩, ⟨some 2, .alloc [.v (.int .u64 0), .v (.int .u64 0)], none⟩])
 (.seq (.region [⟨some 3, .fld 0 (.t 1), none⟩, ⟨some 4, .load false 1 (.t 3) (some 1), none⟩, ⟨some 5, .cvt .u64 (.t 4), none⟩, ⟨some 6, .fld 1 (.t 1), none⟩, ⟨some 7, .load false 1 (.t 6) (some 1), none⟩, ⟨some 8, .build [.v (.int .u64 0), .v (.int .u64 0)] [(0, 1, (.t 5)), (1, 1, (.t 7))], none⟩, ⟨none, .store 2 (.t 2) (.t 8) 2, none⟩])
 .ret))⟩
theorem wide_bits.chk : chkFn Try.prog Try.f105 wide_bits.c = true := by kernel_rfl
theorem wide_bits.ent : ∀ args w, (callFunc 105 args).run Try.prog w = .ok (.enter 105 args) w := enters Try.func105 (by kernel_rfl) (by kernel_rfl)

/-- epact/wide.from -/
def wide_from.c : SF := ⟨9, [.c 2 true 2],
 (.seq (.region [⟨some 1, .box (.t 0), none⟩, ⟨some 2, .alloc [.v (.int .i64 0), .v (.int .u64 0)], none⟩])
 (.seq (.region [⟨some 3, .fld 0 (.t 1), none⟩, ⟨some 4, .load false 1 (.t 3) (some 1), none⟩, ⟨some 5, .cvt .i64 (.t 4), none⟩, ⟨some 6, .fld 1 (.t 1), none⟩, ⟨some 7, .load false 1 (.t 6) (some 1), none⟩, ⟨some 8, .build [.v (.int .i64 0), .v (.int .u64 0)] [(0, 1, (.t 5)), (1, 1, (.t 7))], none⟩, ⟨none, .store 2 (.t 2) (.t 8) 2, none⟩])
 .ret))⟩
theorem wide_from.chk : chkFn Try.prog Try.f106 wide_from.c = true := by kernel_rfl
theorem wide_from.ent : ∀ args w, (callFunc 106 args).run Try.prog w = .ok (.enter 106 args) w := enters Try.func106 (by kernel_rfl) (by kernel_rfl)

/-- epact/wide.size -/
def wide_size.c : SF := ⟨18, [.c 2 true 2],
 (.seq (.region [⟨some 1, .box (.t 0), none⟩, ⟨some 2, .alloc [.v (.int .u64 0), .v (.int .u64 0)], none⟩])
 (.seq (.seq (.region [⟨some 5, .fld 0 (.t 1), none⟩, ⟨some 6, .load false 1 (.t 5) (some 1), none⟩, ⟨some 7, .bin .geq (.t 6) (.k (.int .i64 0)), none⟩])
 (.cond (.t 7)
 (.seq (.region [⟨some 8, .load true 2 (.t 1) (some 1), none⟩, ⟨some 9, .call 105 [(.t 8)], none⟩, ⟨none, .store 2 (.t 2) (.t 9) 2, none⟩])
 .ret)
 .skip))
 (.seq (.region [⟨some 11, .build [.v (.int .u64 0), .v (.int .u64 0)] [], none⟩, ⟨some 12, .load true 2 (.t 1) (some 1), none⟩, ⟨some 13, .call 105 [(.t 12)], none⟩, ⟨some 14, .call 114 [(.t 11), (.t 13)], none⟩, ⟨some 10, .mv (.t 14), none⟩, ⟨some 15, .ext (.t 10) 0, none⟩, ⟨some 16, .ext (.t 10) 1, none⟩, ⟨some 3, .alloc [.v (.int .u64 0), .v (.int .u64 0)], none⟩, ⟨none, .store 2 (.t 3) (.t 15) 3, none⟩, ⟨some 4, .mv (.t 16), none⟩])
 (.seq (.region [⟨some 17, .load true 2 (.t 3) (some 3), none⟩, ⟨none, .store 2 (.t 2) (.t 17) 2, none⟩])
 .ret))))⟩
theorem wide_size.chk : chkFn Try.prog Try.f108 wide_size.c = true := by kernel_rfl
theorem wide_size.ent : ∀ args w, (callFunc 108 args).run Try.prog w = .ok (.enter 108 args) w := enters Try.func108 (by kernel_rfl) (by kernel_rfl)

/-- epact/wide.signed -/
def wide_signed.c : SF := ⟨38, [.c 4 true 2, .t 5],
 (.seq (.region [⟨some 2, .box (.t 0), none⟩, ⟨some 4, .alloc [.v (.int .i64 0), .v (.int .u64 0)], none⟩, ⟨some 5, .mv (.k (.int .i64 0)), none⟩])
 (.seq (.region [⟨some 9, .build [.v (.int .u64 0), .v (.int .u64 0)] [(0, 1, (.k (.int .u64 9223372036854775808)))], none⟩, ⟨some 6, .alloc [.v (.int .u64 0), .v (.int .u64 0)], none⟩, ⟨none, .store 2 (.t 6) (.t 9) 6, none⟩])
 (.seq (.block 0
 (.seq (.region [⟨some 11, .mv (.t 1), none⟩, ⟨some 12, .mv (.t 11), none⟩, ⟨some 13, .load true 2 (.t 2) (some 2), some (12, true)⟩, ⟨some 14, .load true 2 (.t 6) (some 6), some (12, true)⟩, ⟨some 15, .call 119 [(.t 13), (.t 14)], some (12, true)⟩, ⟨some 16, .bin .leq (.t 15) (.k (.int .i64 0)), some (12, true)⟩, ⟨some 17, .pick (.t 12) (.t 16) (.k (.bool false)), none⟩, ⟨some 10, .mv (.t 17), none⟩])
 (.cond (.t 10)
 (.seq (.region [⟨some 19, .build [.v (.int .u64 0), .v (.int .u64 0)] [], none⟩, ⟨some 20, .load true 2 (.t 2) (some 2), none⟩, ⟨some 21, .call 114 [(.t 19), (.t 20)], none⟩, ⟨some 18, .mv (.t 21), none⟩, ⟨some 22, .ext (.t 18) 0, none⟩, ⟨some 23, .ext (.t 18) 1, none⟩, ⟨some 7, .alloc [.v (.int .u64 0), .v (.int .u64 0)], none⟩, ⟨none, .store 2 (.t 7) (.t 22) 7, none⟩, ⟨some 8, .mv (.t 23), none⟩])
 (.seq (.region [⟨some 24, .load true 2 (.t 7) (some 7), none⟩, ⟨some 25, .call 106 [(.t 24)], none⟩, ⟨none, .store 2 (.t 4) (.t 25) 4, none⟩, ⟨some 5, .mv (.k (.int .i64 0)), none⟩])
 .ret))
 (.seq (.region [⟨some 27, .mv (.t 1), none⟩, ⟨some 28, .not (.t 27), none⟩, ⟨some 29, .mv (.t 28), none⟩, ⟨some 30, .load true 2 (.t 2) (some 2), some (29, true)⟩, ⟨some 31, .load true 2 (.t 6) (some 6), some (29, true)⟩, ⟨some 32, .call 119 [(.t 30), (.t 31)], some (29, true)⟩, ⟨some 33, .bin .lss (.t 32) (.k (.int .i64 0)), some (29, true)⟩, ⟨some 34, .pick (.t 29) (.t 33) (.k (.bool false)), none⟩, ⟨some 26, .mv (.t 34), none⟩])
 (.cond (.t 26)
 (.seq (.region [⟨some 35, .load true 2 (.t 2) (some 2), none⟩, ⟨some 36, .call 106 [(.t 35)], none⟩, ⟨none, .store 2 (.t 4) (.t 36) 4, none⟩, ⟨some 5, .mv (.k (.int .i64 0)), none⟩])
 .ret)
 .skip)))))
 (.seq (.region [⟨some 37, .build [.v (.int .i64 0), .v (.int .u64 0)] [], none⟩, ⟨none, .store 2 (.t 4) (.t 37) 4, none⟩, ⟨some 5, .mv (.k (.int .i64 2)), none⟩])
 .ret))))⟩
theorem wide_signed.chk : chkFn Try.prog Try.f109 wide_signed.c = true := by kernel_rfl
theorem wide_signed.ent : ∀ args w, (callFunc 109 args).run Try.prog w = .ok (.enter 109 args) w := enters Try.func109 (by kernel_rfl) (by kernel_rfl)

/-- epact/epactref01.word -/
def epactref01_word.l1 : SC :=
 (.seq (.seq (.region [⟨some 7, .mv (.t 6), none⟩, ⟨some 8, .bin .geq (.t 7) (.k (.int .i64 0)), none⟩])
 (.cond (.t 8)
 .skip
 (.exit 0)))
 (.seq (.block 1
 (.seq (.region [⟨some 11, .mv (.t 5), none⟩, ⟨some 12, .bin .shl (.t 11) (.k (.int .u64 16)), none⟩, ⟨some 5, .mv (.t 12), none⟩])
 (.seq (.region [⟨some 13, .mv (.t 1), none⟩, ⟨some 14, .mv (.t 6), none⟩, ⟨some 15, .bin .add (.t 13) (.t 14), none⟩, ⟨some 16, .mv (.t 0), none⟩, ⟨some 17, .len (.t 16), none⟩, ⟨some 18, .bin .lss (.t 15) (.t 17), none⟩])
 (.cond (.t 18)
 (.region [⟨some 19, .mv (.t 5), none⟩, ⟨some 20, .mv (.t 0), none⟩, ⟨some 21, .mv (.t 1), none⟩, ⟨some 22, .mv (.t 6), none⟩, ⟨some 23, .bin .add (.t 21) (.t 22), none⟩, ⟨some 24, .idx 1 (.t 20) (.t 23), none⟩, ⟨some 25, .load false 1 (.t 24) none, none⟩, ⟨some 26, .cvt .u64 (.t 25), none⟩, ⟨some 27, .bin .add (.t 19) (.t 26), none⟩, ⟨some 5, .mv (.t 27), none⟩])
 .skip))))
 (.region [⟨some 9, .mv (.t 6), none⟩, ⟨some 10, .bin .sub (.t 9) (.k (.int .i64 1)), none⟩, ⟨some 6, .mv (.t 10), none⟩])))
def epactref01_word.c : SF := ⟨29, [.t 4],
 (.seq (.region [⟨some 4, .mv (.k (.int .u64 0)), none⟩])
 (.seq (.region [⟨some 5, .mv (.k (.int .u64 0)), none⟩])
 (.seq (.seq (.region [⟨some 6, .mv (.k (.int .i64 3)), none⟩])
 (.block 0
 (.loop epactref01_word.l1)))
 (.seq (.region [⟨some 28, .mv (.t 5), none⟩, ⟨some 4, .mv (.t 28), none⟩])
 .ret))))⟩
theorem epactref01_word.chk : chkFn Try.prog Try.f110 epactref01_word.c = true := by kernel_rfl
theorem epactref01_word.ent : ∀ args w, (callFunc 110 args).run Try.prog w = .ok (.enter 110 args) w := enters Try.func110 (by kernel_rfl) (by kernel_rfl)

/-- epact/wide.above -/
def wide_above.c : SF := ⟨7, [.t 2],
 (.seq (.region [⟨some 1, .box (.t 0), none⟩, ⟨some 2, .mv (.k (.bool false)), none⟩])
 (.seq (.region [⟨some 3, .load true 2 (.t 1) (some 1), none⟩, ⟨some 4, .build [.v (.int .i64 0), .v (.int .u64 0)] [], none⟩, ⟨some 5, .call 71 [(.t 3), (.t 4)], none⟩, ⟨some 6, .bin .gtr (.t 5) (.k (.int .i64 0)), none⟩, ⟨some 2, .mv (.t 6), none⟩])
 .ret))⟩
theorem wide_above.chk : chkFn Try.prog Try.f111 wide_above.c = true := by kernel_rfl
theorem wide_above.ent : ∀ args w, (callFunc 111 args).run Try.prog w = .ok (.enter 111 args) w := enters Try.func111 (by kernel_rfl) (by kernel_rfl)

/-- epact/limb.Div -/
def limb_Div.l1 : SC :=
 (.seq (.region [⟨some 31, .bin .lss (.t 30) (.k (.int .i64 128)), none⟩])
 (.seq (.cond (.t 31)
 .skip
 (.exit 0))
 (.seq (.block 1
 (.seq (.region [⟨some 9, .mv (.k (.bool false)), none⟩])
 (.seq (.region [⟨some 33, .load true 2 (.t 7) (some 7), none⟩, ⟨some 34, .fld 0 (.t 4), none⟩, ⟨some 35, .load false 1 (.t 34) (some 4), none⟩, ⟨some 36, .bin .shr (.t 35) (.k (.int .u64 63)), none⟩, ⟨some 37, .call 121 [(.t 33), (.t 36)], none⟩, ⟨some 32, .mv (.t 37), none⟩, ⟨some 38, .ext (.t 32) 0, none⟩, ⟨some 39, .ext (.t 32) 1, none⟩, ⟨none, .store 2 (.t 7) (.t 38) 7, none⟩, ⟨some 9, .mv (.t 39), none⟩])
 (.seq (.region [⟨some 41, .load true 2 (.t 4) (some 4), none⟩, ⟨some 42, .call 121 [(.t 41), (.k (.int .u64 0))], none⟩, ⟨some 40, .mv (.t 42), none⟩, ⟨some 43, .ext (.t 40) 0, none⟩, ⟨some 44, .ext (.t 40) 1, none⟩, ⟨none, .store 2 (.t 4) (.t 43) 4, none⟩])
 (.seq (.region [⟨some 46, .load true 2 (.t 6) (some 6), none⟩, ⟨some 47, .call 121 [(.t 46), (.k (.int .u64 0))], none⟩, ⟨some 45, .mv (.t 47), none⟩, ⟨some 48, .ext (.t 45) 0, none⟩, ⟨some 49, .ext (.t 45) 1, none⟩, ⟨none, .store 2 (.t 6) (.t 48) 6, none⟩])
 (.seq (.region [⟨some 50, .mv (.t 9), none⟩, ⟨some 51, .mv (.t 50), none⟩, ⟨some 52, .load true 2 (.t 7) (some 7), some (51, false)⟩, ⟨some 53, .load true 2 (.t 5) (some 5), some (51, false)⟩, ⟨some 54, .call 119 [(.t 52), (.t 53)], some (51, false)⟩, ⟨some 55, .bin .geq (.t 54) (.k (.int .i64 0)), some (51, false)⟩, ⟨some 56, .pick (.t 51) (.k (.bool true)) (.t 55), none⟩])
 (.cond (.t 56)
 (.seq (.region [⟨some 58, .load true 2 (.t 7) (some 7), none⟩, ⟨some 59, .load true 2 (.t 5) (some 5), none⟩, ⟨some 60, .call 114 [(.t 58), (.t 59)], none⟩, ⟨some 57, .mv (.t 60), none⟩, ⟨some 61, .ext (.t 57) 0, none⟩, ⟨some 62, .ext (.t 57) 1, none⟩, ⟨none, .store 2 (.t 7) (.t 61) 7, none⟩])
 (.region [⟨some 63, .fld 1 (.t 6), none⟩, ⟨some 64, .load false 1 (.t 63) (some 6), none⟩, ⟨some 65, .bin .or (.t 64) (.k (.int .u64 1)), none⟩, ⟨some 66, .fld 1 (.t 6), none⟩, ⟨none, .store 1 (.t 66) (.t 65) 6, none⟩]))
 .skip)))))))
 (.region [⟨some 67, .bin .add (.t 30) (.k (.int .i64 1)), none⟩, ⟨some 30, .mv (.t 67), none⟩]))))
def limb_Div.c : SF := ⟨70, [.c 6 true 2, .c 7 true 2, .t 8],
 (.seq (.region [⟨some 3, .box (.t 0), none⟩, ⟨some 4, .box (.t 1), none⟩, ⟨some 5, .box (.t 2), none⟩, ⟨some 6, .alloc [.v (.int .u64 0), .v (.int .u64 0)], none⟩, ⟨some 7, .alloc [.v (.int .u64 0), .v (.int .u64 0)], none⟩, ⟨some 8, .mv (.k (.bool false)), none⟩])
 (.seq (.seq (.region [⟨some 10, .load true 2 (.t 3) (some 3), none⟩, ⟨some 11, .load true 2 (.t 5) (some 5), none⟩, ⟨some 12, .call 119 [(.t 10), (.t 11)], none⟩, ⟨some 13, .bin .geq (.t 12) (.k (.int .i64 0)), none⟩])
 (.cond (.t 13)
 (.seq (.region [⟨some 14, .build [.v (.int .u64 0), .v (.int .u64 0)] [], none⟩, ⟨some 15, .build [.v (.int .u64 0), .v (.int .u64 0)] [], none⟩, ⟨none, .store 2 (.t 6) (.t 14) 6, none⟩, ⟨none, .store 2 (.t 7) (.t 15) 7, none⟩, ⟨some 8, .mv (.k (.bool false)), none⟩])
 .ret)
 .skip))
 (.seq (.seq (.region [⟨some 16, .fld 0 (.t 5), none⟩, ⟨some 17, .load false 1 (.t 16) (some 5), none⟩, ⟨some 18, .bin .eql (.t 17) (.k (.int .u64 0)), none⟩])
 (.cond (.t 18)
 (.seq (.region [⟨some 20, .load true 2 (.t 3) (some 3), none⟩, ⟨some 21, .load true 2 (.t 4) (some 4), none⟩, ⟨some 22, .fld 1 (.t 5), none⟩, ⟨some 23, .load false 1 (.t 22) (some 5), none⟩, ⟨some 24, .call 120 [(.t 20), (.t 21), (.t 23)], none⟩, ⟨some 19, .mv (.t 24), none⟩, ⟨some 25, .ext (.t 19) 0, none⟩, ⟨some 26, .ext (.t 19) 1, none⟩, ⟨none, .store 2 (.t 6) (.t 25) 6, none⟩, ⟨none, .store 2 (.t 7) (.t 26) 7, none⟩])
 (.seq (.region [⟨some 27, .load true 2 (.t 6) (some 6), none⟩, ⟨some 28, .load true 2 (.t 7) (some 7), none⟩, ⟨none, .store 2 (.t 6) (.t 27) 6, none⟩, ⟨none, .store 2 (.t 7) (.t 28) 7, none⟩, ⟨some 8, .mv (.k (.bool true)), none⟩])
 .ret))
 .skip))
 (.seq (.region [⟨some 29, .load true 2 (.t 3) (some 3), none⟩, ⟨none, .store 2 (.t 7) (.t 29) 7, none⟩])
 (.seq (.seq (.region [⟨some 30, .mv (.k (.int .i64 0)), none⟩])
 (.block 0
 (.loop limb_Div.l1)))
 (.seq (.region [⟨some 68, .load true 2 (.t 6) (some 6), none⟩, ⟨some 69, .load true 2 (.t 7) (some 7), none⟩, ⟨none, .store 2 (.t 6) (.t 68) 6, none⟩, ⟨none, .store 2 (.t 7) (.t 69) 7, none⟩, ⟨some 8, .mv (.k (.bool true)), none⟩])
 .ret))))))⟩
theorem limb_Div.chk : chkFn Try.prog Try.f112 limb_Div.c = true := by kernel_rfl
theorem limb_Div.ent : ∀ args w, (callFunc 112 args).run Try.prog w = .ok (.enter 112 args) w := enters Try.func112 (by kernel_rfl) (by kernel_rfl)

/-- epact/wide.least -/
def wide_least.c : SF := ⟨6, [.t 2],
 (.seq (.region [⟨some 1, .box (.t 0), none⟩, ⟨some 2, .mv (.k (.bool false)), none⟩])
 (.seq (.region [⟨some 3, .load true 2 (.t 1) (some 1), none⟩, ⟨some 4, .build [.v (.int .i64 0), .v (.int .u64 0)] [(0, 1, (.k (.int .i64 (-9223372036854775808))))], none⟩, ⟨some 5, .eqs false [.i64, .u64] (.t 3) (.t 4), none⟩, ⟨some 2, .mv (.t 5), none⟩])
 .ret))⟩
theorem wide_least.chk : chkFn Try.prog Try.f113 wide_least.c = true := by kernel_rfl
theorem wide_least.ent : ∀ args w, (callFunc 113 args).run Try.prog w = .ok (.enter 113 args) w := enters Try.func113 (by kernel_rfl) (by kernel_rfl)

/-- epact/limb.Sub -/
def limb_Sub.c : SF := ⟨31, [.c 4 true 2, .t 5],
 (.seq (.region [⟨some 2, .box (.t 0), none⟩, ⟨some 3, .box (.t 1), none⟩, ⟨some 4, .alloc [.v (.int .u64 0), .v (.int .u64 0)], none⟩, ⟨some 5, .mv (.k (.bool false)), none⟩])
 (.seq (.region [⟨some 10, .fld 1 (.t 2), none⟩, ⟨some 11, .load false 1 (.t 10) (some 2), none⟩, ⟨some 12, .fld 1 (.t 3), none⟩, ⟨some 13, .load false 1 (.t 12) (some 3), none⟩, ⟨some 14, .call 122 [(.t 11), (.t 13), (.k (.int .u64 0))], none⟩, ⟨some 9, .mv (.t 14), none⟩, ⟨some 15, .ext (.t 9) 0, none⟩, ⟨some 16, .ext (.t 9) 1, none⟩, ⟨some 6, .mv (.t 15), none⟩, ⟨some 7, .mv (.t 16), none⟩])
 (.seq (.region [⟨some 18, .fld 0 (.t 2), none⟩, ⟨some 19, .load false 1 (.t 18) (some 2), none⟩, ⟨some 20, .fld 0 (.t 3), none⟩, ⟨some 21, .load false 1 (.t 20) (some 3), none⟩, ⟨some 22, .mv (.t 7), none⟩, ⟨some 23, .call 122 [(.t 19), (.t 21), (.t 22)], none⟩, ⟨some 17, .mv (.t 23), none⟩, ⟨some 24, .ext (.t 17) 0, none⟩, ⟨some 25, .ext (.t 17) 1, none⟩, ⟨some 8, .mv (.t 24), none⟩, ⟨some 7, .mv (.t 25), none⟩])
 (.seq (.region [⟨some 26, .mv (.t 8), none⟩, ⟨some 27, .mv (.t 6), none⟩, ⟨some 28, .build [.v (.int .u64 0), .v (.int .u64 0)] [(0, 1, (.t 26)), (1, 1, (.t 27))], none⟩, ⟨some 29, .mv (.t 7), none⟩, ⟨some 30, .bin .eql (.t 29) (.k (.int .u64 1)), none⟩, ⟨none, .store 2 (.t 4) (.t 28) 4, none⟩, ⟨some 5, .mv (.t 30), none⟩])
 .ret))))⟩
theorem limb_Sub.chk : chkFn Try.prog Try.f114 limb_Sub.c = true := by kernel_rfl
theorem limb_Sub.ent : ∀ args w, (callFunc 114 args).run Try.prog w = .ok (.enter 114 args) w := enters Try.func114 (by kernel_rfl) (by kernel_rfl)

/-- epact/scale.zeros -/
def scale_zeros.c : SF := ⟨18, [.c 2 true 3, .t 3],
 (.seq (.region [⟨some 2, .alloc [.v (.int .i64 0), .v (.int .i64 0), .v (.int .i64 0)], none⟩, ⟨some 3, .mv (.k (.bool false)), none⟩])
 (.seq (.seq (.region [⟨some 4, .mv (.t 0), none⟩])
 (.block 0
 (.seq (.region [⟨some 6, .bin .eql (.t 4) (.k (.int .i64 1)), none⟩, ⟨some 5, .mv (.t 6), none⟩])
 (.cond (.t 5)
 (.seq (.region [⟨some 7, .build [.v (.int .i64 0), .v (.int .i64 0), .v (.int .i64 0)] [(0, 1, (.k (.int .i64 36204)))], none⟩, ⟨none, .store 3 (.t 2) (.t 7) 2, none⟩, ⟨some 3, .mv (.k (.bool true)), none⟩])
 .ret)
 (.seq (.region [⟨some 9, .bin .eql (.t 4) (.k (.int .i64 2)), none⟩, ⟨some 8, .mv (.t 9), none⟩])
 (.cond (.t 8)
 (.seq (.region [⟨some 10, .build [.v (.int .i64 0), .v (.int .i64 0), .v (.int .i64 0)] [(0, 1, (.k (.int .i64 51544))), (1, 1, (.k (.int .i64 43167))), (2, 1, (.k (.int .i64 816000000000000000)))], none⟩, ⟨none, .store 3 (.t 2) (.t 10) 2, none⟩, ⟨some 3, .mv (.k (.bool true)), none⟩])
 .ret)
 (.seq (.region [⟨some 12, .bin .eql (.t 4) (.k (.int .i64 3)), none⟩, ⟨some 11, .mv (.t 12), none⟩])
 (.cond (.t 11)
 (.seq (.region [⟨some 13, .build [.v (.int .i64 0), .v (.int .i64 0), .v (.int .i64 0)] [(0, 1, (.k (.int .i64 44244))), (1, 1, (.k (.int .i64 19)))], none⟩, ⟨none, .store 3 (.t 2) (.t 13) 2, none⟩, ⟨some 3, .mv (.k (.bool true)), none⟩])
 .ret)
 (.seq (.region [⟨some 15, .bin .eql (.t 4) (.k (.int .i64 4)), none⟩, ⟨some 14, .mv (.t 15), none⟩])
 (.cond (.t 14)
 (.seq (.region [⟨some 16, .build [.v (.int .i64 0), .v (.int .i64 0), .v (.int .i64 0)] [(0, 1, (.k (.int .i64 40587)))], none⟩, ⟨none, .store 3 (.t 2) (.t 16) 2, none⟩, ⟨some 3, .mv (.k (.bool true)), none⟩])
 .ret)
 .skip))))))))))
 (.seq (.region [⟨some 17, .build [.v (.int .i64 0), .v (.int .i64 0), .v (.int .i64 0)] [], none⟩, ⟨none, .store 3 (.t 2) (.t 17) 2, none⟩, ⟨some 3, .mv (.k (.bool false)), none⟩])
 .ret)))⟩
theorem scale_zeros.chk : chkFn Try.prog Try.f115 scale_zeros.c = true := by kernel_rfl
theorem scale_zeros.ent : ∀ args w, (callFunc 115 args).run Try.prog w = .ok (.enter 115 args) w := enters Try.func115 (by kernel_rfl) (by kernel_rfl)

/-- slices.Grow[[]byte,byte] -/
def slices_Grow_byte_byte.c : SF := ⟨27, [.t 4],
 (.seq (.region [⟨some 4, .mv (.nil .u8), none⟩])
 (.seq (.seq (.region [⟨some 5, .mv (.t 1), none⟩, ⟨some 6, .bin .lss (.t 5) (.k (.int .i64 0)), none⟩])
 (.cond (.t 6)
 .bad
 .skip))
 (.seq (.seq (.region [⟨some 8, .mv (.t 1), none⟩, ⟨some 9, .mv (.t 0), none⟩, ⟨some 10, .cap (.t 9), none⟩, ⟨some 11, .mv (.t 0), none⟩, ⟨some 12, .len (.t 11), none⟩, ⟨some 13, .bin .sub (.t 10) (.t 12), none⟩, ⟨some 14, .bin .sub (.t 8) (.t 13), none⟩, ⟨some 1, .mv (.t 14), none⟩])
 (.seq (.region [⟨some 15, .mv (.t 1), none⟩, ⟨some 16, .bin .gtr (.t 15) (.k (.int .i64 0)), none⟩])
 (.cond (.t 16)
 (.region [⟨some 17, .mv (.t 0), none⟩, ⟨some 18, .mv (.t 0), none⟩, ⟨some 19, .cap (.t 18), none⟩, ⟨some 20, .sl (.t 17) none (some (.t 19)), none⟩, ⟨some 21, .mv (.t 1), none⟩, ⟨some 22, .appZ ⟨5, 1, some .u8⟩ (.t 20) (.t 21), none⟩, ⟨some 23, .mv (.t 0), none⟩, ⟨some 24, .len (.t 23), none⟩, ⟨some 25, .sl (.t 22) none (some (.t 24)), none⟩, ⟨some 0, .mv (.t 25), none⟩])
 .skip)))
 (.seq (.region [⟨some 26, .mv (.t 0), none⟩, ⟨some 4, .mv (.t 26), none⟩])
 .ret))))⟩
theorem slices_Grow_byte_byte.chk : chkFn Try.prog Try.f116 slices_Grow_byte_byte.c = true := by kernel_rfl
theorem slices_Grow_byte_byte.ent : ∀ args w, (callFunc 116 args).run Try.prog w = .ok (.enter 116 args) w := enters Try.func116 (by kernel_rfl) (by kernel_rfl)

/-- epact/limb.Cmp -/
def limb_Cmp.c : SF := ⟨29, [.t 4],
 (.seq (.region [⟨some 2, .box (.t 0), none⟩, ⟨some 3, .box (.t 1), none⟩, ⟨some 4, .mv (.k (.int .i64 0)), none⟩])
 (.seq (.block 0
 (.seq (.region [⟨some 6, .load true 2 (.t 2) (some 2), none⟩, ⟨some 7, .load true 2 (.t 3) (some 3), none⟩, ⟨some 8, .eqs false [.u64, .u64] (.t 6) (.t 7), none⟩, ⟨some 5, .mv (.t 8), none⟩])
 (.cond (.t 5)
 (.seq (.region [⟨some 4, .mv (.k (.int .i64 0)), none⟩])
 .ret)
 (.seq (.region [⟨some 10, .fld 0 (.t 2), none⟩, ⟨some 11, .load false 1 (.t 10) (some 2), none⟩, ⟨some 12, .fld 0 (.t 3), none⟩, ⟨some 13, .load false 1 (.t 12) (some 3), none⟩, ⟨some 14, .bin .lss (.t 11) (.t 13), none⟩, ⟨some 15, .mv (.t 14), none⟩, ⟨some 16, .fld 0 (.t 2), some (15, false)⟩, ⟨some 17, .load false 1 (.t 16) (some 2), some (15, false)⟩, ⟨some 18, .fld 0 (.t 3), some (15, false)⟩, ⟨some 19, .load false 1 (.t 18) (some 3), some (15, false)⟩, ⟨some 20, .bin .eql (.t 17) (.t 19), some (15, false)⟩, ⟨some 21, .mv (.t 20), some (15, false)⟩, ⟨some 22, .fld 1 (.t 2), some (21, true)⟩, ⟨some 23, .load false 1 (.t 22) (some 2), some (21, true)⟩, ⟨some 24, .fld 1 (.t 3), some (21, true)⟩, ⟨some 25, .load false 1 (.t 24) (some 3), some (21, true)⟩, ⟨some 26, .bin .lss (.t 23) (.t 25), some (21, true)⟩, ⟨some 27, .pick (.t 21) (.t 26) (.k (.bool false)), some (15, false)⟩, ⟨some 28, .pick (.t 15) (.k (.bool true)) (.t 27), none⟩, ⟨some 9, .mv (.t 28), none⟩])
 (.cond (.t 9)
 (.seq (.region [⟨some 4, .mv (.k (.int .i64 (-1))), none⟩])
 .ret)
 .skip)))))
 (.seq (.region [⟨some 4, .mv (.k (.int .i64 1)), none⟩])
 .ret)))⟩
theorem limb_Cmp.chk : chkFn Try.prog Try.f119 limb_Cmp.c = true := by kernel_rfl
theorem limb_Cmp.ent : ∀ args w, (callFunc 119 args).run Try.prog w = .ok (.enter 119 args) w := enters Try.func119 (by kernel_rfl) (by kernel_rfl)

/-- epact/limb.short -/
def limb_short.c : SF := ⟨33, [.c 6 true 2, .c 7 true 2],
 (.seq (.region [⟨some 3, .box (.t 0), none⟩, ⟨some 4, .box (.t 1), none⟩, ⟨some 6, .alloc [.v (.int .u64 0), .v (.int .u64 0)], none⟩, ⟨some 7, .alloc [.v (.int .u64 0), .v (.int .u64 0)], none⟩])
 (.seq (.region [⟨some 12, .fld 1 (.t 3), none⟩, ⟨some 13, .load false 1 (.t 12) (some 3), none⟩, ⟨some 14, .fld 0 (.t 4), none⟩, ⟨some 15, .load false 1 (.t 14) (some 4), none⟩, ⟨some 16, .mv (.t 2), none⟩, ⟨some 17, .call 124 [(.t 13), (.t 15), (.t 16)], none⟩, ⟨some 11, .mv (.t 17), none⟩, ⟨some 18, .ext (.t 11) 0, none⟩, ⟨some 19, .ext (.t 11) 1, none⟩, ⟨some 8, .mv (.t 18), none⟩, ⟨some 9, .mv (.t 19), none⟩])
 (.seq (.region [⟨some 21, .mv (.t 9), none⟩, ⟨some 22, .fld 1 (.t 4), none⟩, ⟨some 23, .load false 1 (.t 22) (some 4), none⟩, ⟨some 24, .mv (.t 2), none⟩, ⟨some 25, .call 124 [(.t 21), (.t 23), (.t 24)], none⟩, ⟨some 20, .mv (.t 25), none⟩, ⟨some 26, .ext (.t 20) 0, none⟩, ⟨some 27, .ext (.t 20) 1, none⟩, ⟨some 10, .mv (.t 26), none⟩, ⟨some 9, .mv (.t 27), none⟩])
 (.seq (.region [⟨some 28, .mv (.t 8), none⟩, ⟨some 29, .mv (.t 10), none⟩, ⟨some 30, .build [.v (.int .u64 0), .v (.int .u64 0)] [(0, 1, (.t 28)), (1, 1, (.t 29))], none⟩, ⟨some 31, .mv (.t 9), none⟩, ⟨some 32, .build [.v (.int .u64 0), .v (.int .u64 0)] [(0, 1, (.k (.int .u64 0))), (1, 1, (.t 31))], none⟩, ⟨none, .store 2 (.t 6) (.t 30) 6, none⟩, ⟨none, .store 2 (.t 7) (.t 32) 7, none⟩])
 .ret))))⟩
theorem limb_short.chk : chkFn Try.prog Try.f120 limb_short.c = true := by kernel_rfl
theorem limb_short.ent : ∀ args w, (callFunc 120 args).run Try.prog w = .ok (.enter 120 args) w := enters Try.func120 (by kernel_rfl) (by kernel_rfl)

/-- epact/limb.double -/
def limb_double.c : SF := ⟨23, [.c 4 true 2, .t 5],
 (.seq (.region [⟨some 2, .box (.t 0), none⟩, ⟨some 4, .alloc [.v (.int .u64 0), .v (.int .u64 0)], none⟩, ⟨some 5, .mv (.k (.bool false)), none⟩])
 (.seq (.region [⟨some 6, .fld 0 (.t 2), none⟩, ⟨some 7, .load false 1 (.t 6) (some 2), none⟩, ⟨some 8, .bin .shl (.t 7) (.k (.int .u64 1)), none⟩, ⟨some 9, .fld 1 (.t 2), none⟩, ⟨some 10, .load false 1 (.t 9) (some 2), none⟩, ⟨some 11, .bin .shr (.t 10) (.k (.int .u64 63)), none⟩, ⟨some 12, .bin .or (.t 8) (.t 11), none⟩, ⟨some 13, .fld 1 (.t 2), none⟩, ⟨some 14, .load false 1 (.t 13) (some 2), none⟩, ⟨some 15, .bin .shl (.t 14) (.k (.int .u64 1)), none⟩, ⟨some 16, .mv (.t 1), none⟩, ⟨some 17, .bin .or (.t 15) (.t 16), none⟩, ⟨some 18, .build [.v (.int .u64 0), .v (.int .u64 0)] [(0, 1, (.t 12)), (1, 1, (.t 17))], none⟩, ⟨some 19, .fld 0 (.t 2), none⟩, ⟨some 20, .load false 1 (.t 19) (some 2), none⟩, ⟨some 21, .bin .shr (.t 20) (.k (.int .u64 63)), none⟩, ⟨some 22, .bin .eql (.t 21) (.k (.int .u64 1)), none⟩, ⟨none, .store 2 (.t 4) (.t 18) 4, none⟩, ⟨some 5, .mv (.t 22), none⟩])
 .ret))⟩
theorem limb_double.chk : chkFn Try.prog Try.f121 limb_double.c = true := by kernel_rfl
theorem limb_double.ent : ∀ args w, (callFunc 121 args).run Try.prog w = .ok (.enter 121 args) w := enters Try.func121 (by kernel_rfl) (by kernel_rfl)

/-- math/bits.Mul64 -/
def bits_Mul64.c : SF := ⟨51, [.t 4, .t 5],
 (.seq (.region [⟨some 4, .mv (.k (.int .u64 0)), none⟩, ⟨some 5, .mv (.k (.int .u64 0)), none⟩])
 (.seq (.region [⟨some 14, .mv (.t 0), none⟩, ⟨some 15, .bin .and (.t 14) (.k (.int .u64 4294967295)), none⟩, ⟨some 6, .mv (.t 15), none⟩])
 (.seq (.region [⟨some 16, .mv (.t 0), none⟩, ⟨some 17, .bin .shr (.t 16) (.k (.int .u64 32)), none⟩, ⟨some 7, .mv (.t 17), none⟩])
 (.seq (.region [⟨some 18, .mv (.t 1), none⟩, ⟨some 19, .bin .and (.t 18) (.k (.int .u64 4294967295)), none⟩, ⟨some 8, .mv (.t 19), none⟩])
 (.seq (.region [⟨some 20, .mv (.t 1), none⟩, ⟨some 21, .bin .shr (.t 20) (.k (.int .u64 32)), none⟩, ⟨some 9, .mv (.t 21), none⟩])
 (.seq (.region [⟨some 22, .mv (.t 6), none⟩, ⟨some 23, .mv (.t 8), none⟩, ⟨some 24, .bin .mul (.t 22) (.t 23), none⟩, ⟨some 10, .mv (.t 24), none⟩])
 (.seq (.region [⟨some 25, .mv (.t 7), none⟩, ⟨some 26, .mv (.t 8), none⟩, ⟨some 27, .bin .mul (.t 25) (.t 26), none⟩, ⟨some 28, .mv (.t 10), none⟩, ⟨some 29, .bin .shr (.t 28) (.k (.int .u64 32)), none⟩, ⟨some 30, .bin .add (.t 27) (.t 29), none⟩, ⟨some 11, .mv (.t 30), none⟩])
 (.seq (.region [⟨some 31, .mv (.t 11), none⟩, ⟨some 32, .bin .and (.t 31) (.k (.int .u64 4294967295)), none⟩, ⟨some 12, .mv (.t 32), none⟩])
 (.seq (.region [⟨some 33, .mv (.t 11), none⟩, ⟨some 34, .bin .shr (.t 33) (.k (.int .u64 32)), none⟩, ⟨some 13, .mv (.t 34), none⟩])
 (.seq (.region [⟨some 35, .mv (.t 12), none⟩, ⟨some 36, .mv (.t 6), none⟩, ⟨some 37, .mv (.t 9), none⟩, ⟨some 38, .bin .mul (.t 36) (.t 37), none⟩, ⟨some 39, .bin .add (.t 35) (.t 38), none⟩, ⟨some 12, .mv (.t 39), none⟩])
 (.seq (.region [⟨some 40, .mv (.t 7), none⟩, ⟨some 41, .mv (.t 9), none⟩, ⟨some 42, .bin .mul (.t 40) (.t 41), none⟩, ⟨some 43, .mv (.t 13), none⟩, ⟨some 44, .bin .add (.t 42) (.t 43), none⟩, ⟨some 45, .mv (.t 12), none⟩, ⟨some 46, .bin .shr (.t 45) (.k (.int .u64 32)), none⟩, ⟨some 47, .bin .add (.t 44) (.t 46), none⟩, ⟨some 4, .mv (.t 47), none⟩])
 (.seq (.region [⟨some 48, .mv (.t 0), none⟩, ⟨some 49, .mv (.t 1), none⟩, ⟨some 50, .bin .mul (.t 48) (.t 49), none⟩, ⟨some 5, .mv (.t 50), none⟩])
 .ret))))))))))))⟩
theorem bits_Mul64.chk : chkFn Try.prog Try.f123 bits_Mul64.c = true := by kernel_rfl
theorem bits_Mul64.ent : ∀ args w, (callFunc 123 args).run Try.prog w = .ok (.enter 123 args) w := enters Try.func123 (by kernel_rfl) (by kernel_rfl)

/-- math/bits.Div64 -/
def bits_Div64.l1 : SC :=
 (.seq (.seq (.region [⟨some 67, .mv (.t 15), none⟩, ⟨some 68, .bin .geq (.t 67) (.k (.int .u64 4294967296)), none⟩, ⟨some 69, .mv (.t 68), none⟩, ⟨some 70, .mv (.t 15), some (69, false)⟩, ⟨some 71, .mv (.t 10), some (69, false)⟩, ⟨some 72, .bin .mul (.t 70) (.t 71), some (69, false)⟩, ⟨some 73, .mv (.t 16), some (69, false)⟩, ⟨some 74, .bin .mul (.k (.int .u64 4294967296)) (.t 73), some (69, false)⟩, ⟨some 75, .mv (.t 13), some (69, false)⟩, ⟨some 76, .bin .add (.t 74) (.t 75), some (69, false)⟩, ⟨some 77, .bin .gtr (.t 72) (.t 76), some (69, false)⟩, ⟨some 78, .pick (.t 69) (.k (.bool true)) (.t 77), none⟩])
 (.cond (.t 78)
 .skip
 (.exit 0)))
 (.block 1
 (.seq (.region [⟨some 79, .mv (.t 15), none⟩, ⟨some 80, .bin .sub (.t 79) (.k (.int .u64 1)), none⟩, ⟨some 15, .mv (.t 80), none⟩])
 (.seq (.region [⟨some 81, .mv (.t 16), none⟩, ⟨some 82, .mv (.t 9), none⟩, ⟨some 83, .bin .add (.t 81) (.t 82), none⟩, ⟨some 16, .mv (.t 83), none⟩])
 (.seq (.region [⟨some 84, .mv (.t 16), none⟩, ⟨some 85, .bin .geq (.t 84) (.k (.int .u64 4294967296)), none⟩])
 (.cond (.t 85)
 (.exit 0)
 .skip))))))
def bits_Div64.l2 : SC :=
 (.seq (.seq (.region [⟨some 102, .mv (.t 18), none⟩, ⟨some 103, .bin .geq (.t 102) (.k (.int .u64 4294967296)), none⟩, ⟨some 104, .mv (.t 103), none⟩, ⟨some 105, .mv (.t 18), some (104, false)⟩, ⟨some 106, .mv (.t 10), some (104, false)⟩, ⟨some 107, .bin .mul (.t 105) (.t 106), some (104, false)⟩, ⟨some 108, .mv (.t 16), some (104, false)⟩, ⟨some 109, .bin .mul (.k (.int .u64 4294967296)) (.t 108), some (104, false)⟩, ⟨some 110, .mv (.t 14), some (104, false)⟩, ⟨some 111, .bin .add (.t 109) (.t 110), some (104, false)⟩, ⟨some 112, .bin .gtr (.t 107) (.t 111), some (104, false)⟩, ⟨some 113, .pick (.t 104) (.k (.bool true)) (.t 112), none⟩])
 (.cond (.t 113)
 .skip
 (.exit 2)))
 (.block 3
 (.seq (.region [⟨some 114, .mv (.t 18), none⟩, ⟨some 115, .bin .sub (.t 114) (.k (.int .u64 1)), none⟩, ⟨some 18, .mv (.t 115), none⟩])
 (.seq (.region [⟨some 116, .mv (.t 16), none⟩, ⟨some 117, .mv (.t 9), none⟩, ⟨some 118, .bin .add (.t 116) (.t 117), none⟩, ⟨some 16, .mv (.t 118), none⟩])
 (.seq (.region [⟨some 119, .mv (.t 16), none⟩, ⟨some 120, .bin .geq (.t 119) (.k (.int .u64 4294967296)), none⟩])
 (.cond (.t 120)
 (.exit 2)
 .skip))))))
def bits_Div64.c : SF := ⟨135, [.t 6, .t 7],
 (.seq (.region [⟨some 6, .mv (.k (.int .u64 0)), none⟩, ⟨some 7, .mv (.k (.int .u64 0)), none⟩])
 (.seq (.seq (.region [⟨some 19, .mv (.t 2), none⟩, ⟨some 20, .bin .eql (.t 19) (.k (.int .u64 0)), none⟩])
 (.cond (.t 20)
 .bad
 .skip))
 (.seq (.seq (.region [⟨some 22, .mv (.t 2), none⟩, ⟨some 23, .mv (.t 0), none⟩, ⟨some 24, .bin .leq (.t 22) (.t 23), none⟩])
 (.cond (.t 24)
 .bad
 .skip))
 (.seq (.seq (.region [⟨some 26, .mv (.t 0), none⟩, ⟨some 27, .bin .eql (.t 26) (.k (.int .u64 0)), none⟩])
 (.cond (.t 27)
 (.seq (.region [⟨some 28, .mv (.t 1), none⟩, ⟨some 29, .mv (.t 2), none⟩, ⟨some 30, .bin .quo (.t 28) (.t 29), none⟩, ⟨some 31, .mv (.t 1), none⟩, ⟨some 32, .mv (.t 2), none⟩, ⟨some 33, .bin .rem (.t 31) (.t 32), none⟩, ⟨some 6, .mv (.t 30), none⟩, ⟨some 7, .mv (.t 33), none⟩])
 .ret)
 .skip))
 (.seq (.region [⟨some 34, .mv (.t 2), none⟩, ⟨some 35, .call 125 [(.t 34)], none⟩, ⟨some 36, .cvt .u64 (.t 35), none⟩, ⟨some 8, .mv (.t 36), none⟩])
 (.seq (.region [⟨some 37, .mv (.t 2), none⟩, ⟨some 38, .mv (.t 8), none⟩, ⟨some 39, .bin .shl (.t 37) (.t 38), none⟩, ⟨some 2, .mv (.t 39), none⟩])
 (.seq (.region [⟨some 40, .mv (.t 2), none⟩, ⟨some 41, .bin .shr (.t 40) (.k (.int .u64 32)), none⟩, ⟨some 9, .mv (.t 41), none⟩])
 (.seq (.region [⟨some 42, .mv (.t 2), none⟩, ⟨some 43, .bin .and (.t 42) (.k (.int .u64 4294967295)), none⟩, ⟨some 10, .mv (.t 43), none⟩])
 (.seq (.region [⟨some 44, .mv (.t 0), none⟩, ⟨some 45, .mv (.t 8), none⟩, ⟨some 46, .bin .shl (.t 44) (.t 45), none⟩, ⟨some 47, .mv (.t 1), none⟩, ⟨some 48, .mv (.t 8), none⟩, ⟨some 49, .bin .sub (.k (.int .u64 64)) (.t 48), none⟩, ⟨some 50, .bin .shr (.t 47) (.t 49), none⟩, ⟨some 51, .bin .or (.t 46) (.t 50), none⟩, ⟨some 11, .mv (.t 51), none⟩])
 (.seq (.region [⟨some 52, .mv (.t 1), none⟩, ⟨some 53, .mv (.t 8), none⟩, ⟨some 54, .bin .shl (.t 52) (.t 53), none⟩, ⟨some 12, .mv (.t 54), none⟩])
 (.seq (.region [⟨some 55, .mv (.t 12), none⟩, ⟨some 56, .bin .shr (.t 55) (.k (.int .u64 32)), none⟩, ⟨some 13, .mv (.t 56), none⟩])
 (.seq (.region [⟨some 57, .mv (.t 12), none⟩, ⟨some 58, .bin .and (.t 57) (.k (.int .u64 4294967295)), none⟩, ⟨some 14, .mv (.t 58), none⟩])
 (.seq (.region [⟨some 59, .mv (.t 11), none⟩, ⟨some 60, .mv (.t 9), none⟩, ⟨some 61, .bin .quo (.t 59) (.t 60), none⟩, ⟨some 15, .mv (.t 61), none⟩])
 (.seq (.region [⟨some 62, .mv (.t 11), none⟩, ⟨some 63, .mv (.t 15), none⟩, ⟨some 64, .mv (.t 9), none⟩, ⟨some 65, .bin .mul (.t 63) (.t 64), none⟩, ⟨some 66, .bin .sub (.t 62) (.t 65), none⟩, ⟨some 16, .mv (.t 66), none⟩])
 (.seq (.block 0
 (.loop bits_Div64.l1))
 (.seq (.region [⟨some 86, .mv (.t 11), none⟩, ⟨some 87, .bin .mul (.t 86) (.k (.int .u64 4294967296)), none⟩, ⟨some 88, .mv (.t 13), none⟩, ⟨some 89, .bin .add (.t 87) (.t 88), none⟩, ⟨some 90, .mv (.t 15), none⟩, ⟨some 91, .mv (.t 2), none⟩, ⟨some 92, .bin .mul (.t 90) (.t 91), none⟩, ⟨some 93, .bin .sub (.t 89) (.t 92), none⟩, ⟨some 17, .mv (.t 93), none⟩])
 (.seq (.region [⟨some 94, .mv (.t 17), none⟩, ⟨some 95, .mv (.t 9), none⟩, ⟨some 96, .bin .quo (.t 94) (.t 95), none⟩, ⟨some 18, .mv (.t 96), none⟩])
 (.seq (.region [⟨some 97, .mv (.t 17), none⟩, ⟨some 98, .mv (.t 18), none⟩, ⟨some 99, .mv (.t 9), none⟩, ⟨some 100, .bin .mul (.t 98) (.t 99), none⟩, ⟨some 101, .bin .sub (.t 97) (.t 100), none⟩, ⟨some 16, .mv (.t 101), none⟩])
 (.seq (.block 2
 (.loop bits_Div64.l2))
 (.seq (.region [⟨some 121, .mv (.t 15), none⟩, ⟨some 122, .bin .mul (.t 121) (.k (.int .u64 4294967296)), none⟩, ⟨some 123, .mv (.t 18), none⟩, ⟨some 124, .bin .add (.t 122) (.t 123), none⟩, ⟨some 125, .mv (.t 17), none⟩, ⟨some 126, .bin .mul (.t 125) (.k (.int .u64 4294967296)), none⟩, ⟨some 127, .mv (.t 14), none⟩, ⟨some 128, .bin .add (.t 126) (.t 127), none⟩, ⟨some 129, .mv (.t 18), none⟩, ⟨some 130, .mv (.t 2), none⟩, ⟨some 131, .bin .mul (.t 129) (.t 130), none⟩, ⟨some 132, .bin .sub (.t 128) (.t 131), none⟩, ⟨some 133, .mv (.t 8), none⟩, ⟨some 134, .bin .shr (.t 132) (.t 133), none⟩, ⟨some 6, .mv (.t 124), none⟩, ⟨some 7, .mv (.t 134), none⟩])
 .ret))))))))))))))))))))⟩
theorem bits_Div64.chk : chkFn Try.prog Try.f124 bits_Div64.c = true := by kernel_rfl
theorem bits_Div64.ent : ∀ args w, (callFunc 124 args).run Try.prog w = .ok (.enter 124 args) w := enters Try.func124 (by kernel_rfl) (by kernel_rfl)

/-- math/bits.LeadingZeros64 -/
def bits_LeadingZeros64.c : SF := ⟨6, [.t 2],
 (.seq (.region [⟨some 2, .mv (.k (.int .i64 0)), none⟩])
 (.seq (.region [⟨some 3, .mv (.t 0), none⟩, ⟨some 4, .call 126 [(.t 3)], none⟩, ⟨some 5, .bin .sub (.k (.int .i64 64)) (.t 4), none⟩, ⟨some 2, .mv (.t 5), none⟩])
 .ret))⟩
theorem bits_LeadingZeros64.chk : chkFn Try.prog Try.f125 bits_LeadingZeros64.c = true := by kernel_rfl
theorem bits_LeadingZeros64.ent : ∀ args w, (callFunc 125 args).run Try.prog w = .ok (.enter 125 args) w := enters Try.func125 (by kernel_rfl) (by kernel_rfl)

end Go.Proofs.Ytanolecbepjkcaa.E
