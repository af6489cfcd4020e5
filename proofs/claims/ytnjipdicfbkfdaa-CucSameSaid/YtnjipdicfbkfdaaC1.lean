/- The compact code of the given program's functions, and that it is that code. -/
import Derived.Test.YtnjipdicfbkfdaaProg
import Derived.Test.YtnjipdicfbkfdaaVA
import Derived.KernelRfl
set_option linter.unusedVariables false
set_option maxRecDepth 100000
namespace Go.Proofs.Ytnjipdicfbkfdaa.E
open Go.VC
/-- epact/epactlaw21.GpsWeeks -/
def epactlaw21_GpsWeeks.c : SF := ⟨52, [.t 2],
 (.seq (.region [⟨some 1, .box (.t 0), none⟩, ⟨some 2, .mv (.k (.bool false)), none⟩])
 (.seq (.region [⟨some 13, .load true 2 (.t 1) (some 1), none⟩, ⟨some 14, .call 20 [(.t 13)], none⟩, ⟨some 12, .mv (.t 14), none⟩, ⟨some 15, .ext (.t 12) 0, none⟩, ⟨some 16, .ext (.t 12) 1, none⟩, ⟨some 17, .ext (.t 12) 2, none⟩, ⟨some 3, .mv (.t 15), none⟩, ⟨some 4, .mv (.t 16), none⟩, ⟨some 5, .mv (.t 17), none⟩])
 (.seq (.region [⟨some 19, .load true 2 (.t 1) (some 1), none⟩, ⟨some 20, .call 22 [(.t 19)], none⟩, ⟨some 21, .call 21 [(.t 20)], none⟩, ⟨some 18, .mv (.t 21), none⟩, ⟨some 22, .ext (.t 18) 0, none⟩, ⟨some 23, .ext (.t 18) 1, none⟩, ⟨some 6, .alloc [.v (.bool false), .nil .i64], none⟩, ⟨none, .store 2 (.t 6) (.t 22) 6, none⟩, ⟨some 7, .mv (.t 23), none⟩])
 (.seq (.region [⟨some 25, .load true 2 (.t 6) (some 6), none⟩, ⟨some 26, .call 24 [(.k (.int .i64 604800))], none⟩, ⟨some 27, .call 23 [(.t 25), (.t 26)], none⟩, ⟨some 24, .mv (.t 27), none⟩, ⟨some 28, .ext (.t 24) 0, none⟩, ⟨some 29, .ext (.t 24) 1, none⟩, ⟨some 8, .alloc [.v (.bool false), .nil .i64], none⟩, ⟨some 9, .alloc [.v (.bool false), .nil .i64], none⟩, ⟨none, .store 2 (.t 8) (.t 28) 8, none⟩, ⟨none, .store 2 (.t 9) (.t 29) 9, none⟩])
 (.seq (.region [⟨some 31, .load true 2 (.t 9) (some 9), none⟩, ⟨some 32, .call 25 [(.t 31)], none⟩, ⟨some 30, .mv (.t 32), none⟩, ⟨some 33, .ext (.t 30) 0, none⟩, ⟨some 34, .ext (.t 30) 1, none⟩, ⟨some 10, .mv (.t 33), none⟩, ⟨some 11, .mv (.t 34), none⟩])
 (.seq (.region [⟨some 35, .call 26 [], none⟩, ⟨some 36, .mv (.t 35), none⟩, ⟨some 37, .mv (.t 3), some (36, true)⟩, ⟨some 38, .call 24 [(.t 37)], some (36, true)⟩, ⟨some 39, .load true 2 (.t 8) (some 8), some (36, true)⟩, ⟨some 40, .call 27 [(.t 38), (.t 39)], some (36, true)⟩, ⟨some 41, .pick (.t 36) (.t 40) (.k (.bool false)), none⟩, ⟨some 42, .mv (.t 41), none⟩, ⟨some 43, .mv (.t 4), some (42, true)⟩, ⟨some 44, .mv (.t 10), some (42, true)⟩, ⟨some 45, .bin .eql (.t 43) (.t 44), some (42, true)⟩, ⟨some 46, .pick (.t 42) (.t 45) (.k (.bool false)), none⟩, ⟨some 47, .mv (.t 46), none⟩, ⟨some 48, .mv (.t 5), some (47, true)⟩, ⟨some 49, .mv (.t 7), some (47, true)⟩, ⟨some 50, .bin .eql (.t 48) (.t 49), some (47, true)⟩, ⟨some 51, .pick (.t 47) (.t 50) (.k (.bool false)), none⟩, ⟨some 2, .mv (.t 51), none⟩])
 .ret))))))⟩
theorem epactlaw21_GpsWeeks.chk : chkFn Try.prog Try.f3 epactlaw21_GpsWeeks.c = true := by kernel_rfl
theorem epactlaw21_GpsWeeks.ent : ∀ args w, (callFunc 3 args).run Try.prog w = .ok (.enter 3 args) w := enters Try.func3 (by kernel_rfl) (by kernel_rfl)

/-- epact/epactlaw21.GpsEncodes -/
def epactlaw21_GpsEncodes.c : SF := ⟨33, [.t 4],
 (.seq (.region [⟨some 3, .box (.t 1), none⟩, ⟨some 4, .mv (.k (.bool false)), none⟩])
 (.seq (.region [⟨some 10, .mv (.t 0), none⟩, ⟨some 11, .load true 2 (.t 3) (some 3), none⟩, ⟨some 12, .call 28 [(.t 10), (.t 11)], none⟩, ⟨some 9, .mv (.t 12), none⟩, ⟨some 13, .ext (.t 9) 0, none⟩, ⟨some 14, .ext (.t 9) 1, none⟩, ⟨some 5, .mv (.t 13), none⟩, ⟨some 6, .mv (.t 14), none⟩])
 (.seq (.region [⟨some 16, .mv (.t 0), none⟩, ⟨some 17, .load true 2 (.t 3) (some 3), none⟩, ⟨some 18, .call 22 [(.t 17)], none⟩, ⟨some 19, .call 29 [(.t 16), (.t 18)], none⟩, ⟨some 15, .mv (.t 19), none⟩, ⟨some 20, .ext (.t 15) 0, none⟩, ⟨some 21, .ext (.t 15) 1, none⟩, ⟨some 7, .mv (.t 20), none⟩, ⟨some 8, .mv (.t 21), none⟩])
 (.seq (.region [⟨some 22, .call 26 [], none⟩, ⟨some 23, .mv (.t 22), none⟩, ⟨some 24, .mv (.t 6), some (23, true)⟩, ⟨some 25, .mv (.t 8), some (23, true)⟩, ⟨some 26, .bin .eql (.t 24) (.t 25), some (23, true)⟩, ⟨some 27, .pick (.t 23) (.t 26) (.k (.bool false)), none⟩, ⟨some 28, .mv (.t 27), none⟩, ⟨some 29, .mv (.t 5), some (28, true)⟩, ⟨some 30, .mv (.t 7), some (28, true)⟩, ⟨some 31, .call 30 [(.t 29), (.t 30)], some (28, true)⟩, ⟨some 32, .pick (.t 28) (.t 31) (.k (.bool false)), none⟩, ⟨some 4, .mv (.t 32), none⟩])
 .ret))))⟩
theorem epactlaw21_GpsEncodes.chk : chkFn Try.prog Try.f4 epactlaw21_GpsEncodes.c = true := by kernel_rfl
theorem epactlaw21_GpsEncodes.ent : ∀ args w, (callFunc 4 args).run Try.prog w = .ok (.enter 4 args) w := enters Try.func4 (by kernel_rfl) (by kernel_rfl)

/-- epact/epactlaw21.GpsDecodes -/
def epactlaw21_GpsDecodes.c : SF := ⟨37, [.t 6],
 (.seq (.region [⟨some 5, .box (.t 2), none⟩, ⟨some 6, .mv (.k (.bool false)), none⟩])
 (.seq (.region [⟨some 12, .mv (.t 0), none⟩, ⟨some 13, .mv (.t 1), none⟩, ⟨some 14, .load true 2 (.t 5) (some 5), none⟩, ⟨some 15, .call 31 [(.t 12), (.t 13), (.t 14)], none⟩, ⟨some 11, .mv (.t 15), none⟩, ⟨some 16, .ext (.t 11) 0, none⟩, ⟨some 17, .ext (.t 11) 1, none⟩, ⟨some 7, .alloc [.v (.int .i64 0), .v (.int .u64 0)], none⟩, ⟨none, .store 2 (.t 7) (.t 16) 7, none⟩, ⟨some 8, .mv (.t 17), none⟩])
 (.seq (.region [⟨some 19, .mv (.t 0), none⟩, ⟨some 20, .mv (.t 1), none⟩, ⟨some 21, .load true 2 (.t 5) (some 5), none⟩, ⟨some 22, .call 22 [(.t 21)], none⟩, ⟨some 23, .call 32 [(.t 19), (.t 20), (.t 22)], none⟩, ⟨some 18, .mv (.t 23), none⟩, ⟨some 24, .ext (.t 18) 0, none⟩, ⟨some 25, .ext (.t 18) 1, none⟩, ⟨some 9, .alloc [.v (.int .i64 0), .v (.int .u64 0)], none⟩, ⟨none, .store 2 (.t 9) (.t 24) 9, none⟩, ⟨some 10, .mv (.t 25), none⟩])
 (.seq (.region [⟨some 26, .call 26 [], none⟩, ⟨some 27, .mv (.t 26), none⟩, ⟨some 28, .mv (.t 8), some (27, true)⟩, ⟨some 29, .mv (.t 10), some (27, true)⟩, ⟨some 30, .bin .eql (.t 28) (.t 29), some (27, true)⟩, ⟨some 31, .pick (.t 27) (.t 30) (.k (.bool false)), none⟩, ⟨some 32, .mv (.t 31), none⟩, ⟨some 33, .load true 2 (.t 7) (some 7), some (32, true)⟩, ⟨some 34, .load true 2 (.t 9) (some 9), some (32, true)⟩, ⟨some 35, .eqs false [.i64, .u64] (.t 33) (.t 34), some (32, true)⟩, ⟨some 36, .pick (.t 32) (.t 35) (.k (.bool false)), none⟩, ⟨some 6, .mv (.t 36), none⟩])
 .ret))))⟩
theorem epactlaw21_GpsDecodes.chk : chkFn Try.prog Try.f5 epactlaw21_GpsDecodes.c = true := by kernel_rfl
theorem epactlaw21_GpsDecodes.ent : ∀ args w, (callFunc 5 args).run Try.prog w = .ok (.enter 5 args) w := enters Try.func5 (by kernel_rfl) (by kernel_rfl)

/-- epact/epactlaw21.GpsFloors -/
def epactlaw21_GpsFloors.c : SF := ⟨60, [.t 4],
 (.seq (.region [⟨some 3, .box (.t 1), none⟩, ⟨some 4, .mv (.k (.bool false)), none⟩])
 (.seq (.region [⟨some 5, .mv (.k (.int .i64 10)), none⟩, ⟨some 6, .mv (.k (.int .i64 1000000000000000)), none⟩])
 (.seq (.seq (.region [⟨some 13, .mv (.t 0), none⟩])
 (.cond (.t 13)
 (.region [⟨some 5, .mv (.k (.int .i64 13)), none⟩, ⟨some 6, .mv (.k (.int .i64 1000000000)), none⟩])
 .skip))
 (.seq (.region [⟨some 15, .mv (.t 5), none⟩, ⟨some 16, .load true 2 (.t 3) (some 3), none⟩, ⟨some 17, .call 28 [(.t 15), (.t 16)], none⟩, ⟨some 14, .mv (.t 17), none⟩, ⟨some 18, .ext (.t 14) 0, none⟩, ⟨some 19, .ext (.t 14) 1, none⟩, ⟨some 7, .mv (.t 18), none⟩, ⟨some 8, .mv (.t 19), none⟩])
 (.seq (.region [⟨some 21, .mv (.t 5), none⟩, ⟨some 22, .mv (.t 7), none⟩, ⟨some 23, .load true 2 (.t 3) (some 3), none⟩, ⟨some 24, .call 31 [(.t 21), (.t 22), (.t 23)], none⟩, ⟨some 20, .mv (.t 24), none⟩, ⟨some 25, .ext (.t 20) 0, none⟩, ⟨some 26, .ext (.t 20) 1, none⟩, ⟨some 9, .alloc [.v (.int .i64 0), .v (.int .u64 0)], none⟩, ⟨none, .store 2 (.t 9) (.t 25) 9, none⟩, ⟨some 10, .mv (.t 26), none⟩])
 (.seq (.seq (.region [⟨some 27, .mv (.t 10), none⟩, ⟨some 28, .bin .neq (.t 27) (.k (.int .i64 0)), none⟩])
 (.cond (.t 28)
 (.seq (.region [⟨some 29, .call 26 [], none⟩, ⟨some 30, .mv (.t 29), none⟩, ⟨some 31, .mv (.t 8), some (30, true)⟩, ⟨some 32, .bin .eql (.t 31) (.k (.int .i64 0)), some (30, true)⟩, ⟨some 33, .pick (.t 30) (.t 32) (.k (.bool false)), none⟩, ⟨some 34, .mv (.t 33), none⟩, ⟨some 35, .mv (.t 10), some (34, true)⟩, ⟨some 36, .bin .eql (.t 35) (.k (.int .i64 2)), some (34, true)⟩, ⟨some 37, .pick (.t 34) (.t 36) (.k (.bool false)), none⟩, ⟨some 4, .mv (.t 37), none⟩])
 .ret)
 .skip))
 (.seq (.region [⟨some 39, .load true 2 (.t 3) (some 3), none⟩, ⟨some 40, .call 22 [(.t 39)], none⟩, ⟨some 41, .mv (.t 6), none⟩, ⟨some 42, .call 24 [(.t 41)], none⟩, ⟨some 43, .call 23 [(.t 40), (.t 42)], none⟩, ⟨some 38, .mv (.t 43), none⟩, ⟨some 44, .ext (.t 38) 0, none⟩, ⟨some 45, .ext (.t 38) 1, none⟩, ⟨some 11, .alloc [.v (.bool false), .nil .i64], none⟩, ⟨some 12, .alloc [.v (.bool false), .nil .i64], none⟩, ⟨none, .store 2 (.t 11) (.t 44) 11, none⟩, ⟨none, .store 2 (.t 12) (.t 45) 12, none⟩])
 (.seq (.region [⟨some 46, .call 26 [], none⟩, ⟨some 47, .mv (.t 46), none⟩, ⟨some 48, .mv (.t 8), some (47, true)⟩, ⟨some 49, .bin .eql (.t 48) (.k (.int .i64 0)), some (47, true)⟩, ⟨some 50, .pick (.t 47) (.t 49) (.k (.bool false)), none⟩, ⟨some 51, .mv (.t 50), none⟩, ⟨some 52, .load true 2 (.t 9) (some 9), some (51, true)⟩, ⟨some 53, .call 22 [(.t 52)], some (51, true)⟩, ⟨some 54, .load true 2 (.t 11) (some 11), some (51, true)⟩, ⟨some 55, .mv (.t 6), some (51, true)⟩, ⟨some 56, .call 24 [(.t 55)], some (51, true)⟩, ⟨some 57, .call 33 [(.t 54), (.t 56)], some (51, true)⟩, ⟨some 58, .call 27 [(.t 53), (.t 57)], some (51, true)⟩, ⟨some 59, .pick (.t 51) (.t 58) (.k (.bool false)), none⟩, ⟨some 4, .mv (.t 59), none⟩])
 .ret))))))))⟩
theorem epactlaw21_GpsFloors.chk : chkFn Try.prog Try.f6 epactlaw21_GpsFloors.c = true := by kernel_rfl
theorem epactlaw21_GpsFloors.ent : ∀ args w, (callFunc 6 args).run Try.prog w = .ok (.enter 6 args) w := enters Try.func6 (by kernel_rfl) (by kernel_rfl)

/-- epact/epactlaw21.GpsSame -/
def epactlaw21_GpsSame.c : SF := ⟨37, [.t 6],
 (.seq (.region [⟨some 5, .box (.t 2), none⟩, ⟨some 6, .mv (.k (.bool false)), none⟩])
 (.seq (.region [⟨some 12, .mv (.t 0), none⟩, ⟨some 13, .mv (.t 1), none⟩, ⟨some 14, .load true 2 (.t 5) (some 5), none⟩, ⟨some 15, .call 31 [(.t 12), (.t 13), (.t 14)], none⟩, ⟨some 11, .mv (.t 15), none⟩, ⟨some 16, .ext (.t 11) 0, none⟩, ⟨some 17, .ext (.t 11) 1, none⟩, ⟨some 7, .alloc [.v (.int .i64 0), .v (.int .u64 0)], none⟩, ⟨none, .store 2 (.t 7) (.t 16) 7, none⟩, ⟨some 8, .mv (.t 17), none⟩])
 (.seq (.seq (.region [⟨some 18, .mv (.t 8), none⟩, ⟨some 19, .bin .neq (.t 18) (.k (.int .i64 0)), none⟩])
 (.cond (.t 19)
 (.seq (.region [⟨some 20, .call 26 [], none⟩, ⟨some 6, .mv (.t 20), none⟩])
 .ret)
 .skip))
 (.seq (.region [⟨some 22, .mv (.t 0), none⟩, ⟨some 23, .load true 2 (.t 7) (some 7), none⟩, ⟨some 24, .call 28 [(.t 22), (.t 23)], none⟩, ⟨some 21, .mv (.t 24), none⟩, ⟨some 25, .ext (.t 21) 0, none⟩, ⟨some 26, .ext (.t 21) 1, none⟩, ⟨some 9, .mv (.t 25), none⟩, ⟨some 10, .mv (.t 26), none⟩])
 (.seq (.region [⟨some 27, .call 26 [], none⟩, ⟨some 28, .mv (.t 27), none⟩, ⟨some 29, .mv (.t 10), some (28, true)⟩, ⟨some 30, .bin .eql (.t 29) (.k (.int .i64 0)), some (28, true)⟩, ⟨some 31, .pick (.t 28) (.t 30) (.k (.bool false)), none⟩, ⟨some 32, .mv (.t 31), none⟩, ⟨some 33, .mv (.t 1), some (32, true)⟩, ⟨some 34, .mv (.t 9), some (32, true)⟩, ⟨some 35, .call 30 [(.t 33), (.t 34)], some (32, true)⟩, ⟨some 36, .pick (.t 32) (.t 35) (.k (.bool false)), none⟩, ⟨some 6, .mv (.t 36), none⟩])
 .ret)))))⟩
theorem epactlaw21_GpsSame.chk : chkFn Try.prog Try.f7 epactlaw21_GpsSame.c = true := by kernel_rfl
theorem epactlaw21_GpsSame.ent : ∀ args w, (callFunc 7 args).run Try.prog w = .ok (.enter 7 args) w := enters Try.func7 (by kernel_rfl) (by kernel_rfl)

/-- epact/epactlaw23.CdsEncodes -/
def epactlaw23_CdsEncodes.c : SF := ⟨36, [.t 6],
 (.seq (.region [⟨some 3, .box (.t 0), none⟩, ⟨some 6, .mv (.k (.bool false)), none⟩])
 (.seq (.region [⟨some 12, .load true 3 (.t 3) (some 3), none⟩, ⟨some 13, .mv (.t 1), none⟩, ⟨some 14, .mv (.t 2), none⟩, ⟨some 15, .call 34 [(.t 12), (.t 13), (.t 14)], none⟩, ⟨some 11, .mv (.t 15), none⟩, ⟨some 16, .ext (.t 11) 0, none⟩, ⟨some 17, .ext (.t 11) 1, none⟩, ⟨some 7, .mv (.t 16), none⟩, ⟨some 8, .mv (.t 17), none⟩])
 (.seq (.region [⟨some 19, .load true 3 (.t 3) (some 3), none⟩, ⟨some 20, .mv (.t 1), none⟩, ⟨some 21, .mv (.t 2), none⟩, ⟨some 22, .call 35 [(.t 19), (.t 20), (.t 21)], none⟩, ⟨some 18, .mv (.t 22), none⟩, ⟨some 23, .ext (.t 18) 0, none⟩, ⟨some 24, .ext (.t 18) 1, none⟩, ⟨some 9, .mv (.t 23), none⟩, ⟨some 10, .mv (.t 24), none⟩])
 (.seq (.region [⟨some 25, .call 36 [], none⟩, ⟨some 26, .mv (.t 25), none⟩, ⟨some 27, .mv (.t 8), some (26, true)⟩, ⟨some 28, .mv (.t 10), some (26, true)⟩, ⟨some 29, .bin .eql (.t 27) (.t 28), some (26, true)⟩, ⟨some 30, .pick (.t 26) (.t 29) (.k (.bool false)), none⟩, ⟨some 31, .mv (.t 30), none⟩, ⟨some 32, .mv (.t 7), some (31, true)⟩, ⟨some 33, .mv (.t 9), some (31, true)⟩, ⟨some 34, .call 30 [(.t 32), (.t 33)], some (31, true)⟩, ⟨some 35, .pick (.t 31) (.t 34) (.k (.bool false)), none⟩, ⟨some 6, .mv (.t 35), none⟩])
 .ret))))⟩
theorem epactlaw23_CdsEncodes.chk : chkFn Try.prog Try.f8 epactlaw23_CdsEncodes.c = true := by kernel_rfl
theorem epactlaw23_CdsEncodes.ent : ∀ args w, (callFunc 8 args).run Try.prog w = .ok (.enter 8 args) w := enters Try.func8 (by kernel_rfl) (by kernel_rfl)

/-- epact/epactlaw23.CdsDecodes -/
def epactlaw23_CdsDecodes.c : SF := ⟨50, [.t 4],
 (.seq (.region [⟨some 4, .mv (.k (.bool false)), none⟩])
 (.seq (.region [⟨some 14, .mv (.t 0), none⟩, ⟨some 15, .mv (.t 1), none⟩, ⟨some 16, .call 37 [(.t 14), (.t 15)], none⟩, ⟨some 13, .mv (.t 16), none⟩, ⟨some 17, .ext (.t 13) 0, none⟩, ⟨some 18, .ext (.t 13) 1, none⟩, ⟨some 19, .ext (.t 13) 2, none⟩, ⟨some 20, .ext (.t 13) 3, none⟩, ⟨some 5, .alloc [.v (.int .i64 0), .v (.int .i64 0), .v (.int .i64 0)], none⟩, ⟨none, .store 3 (.t 5) (.t 17) 5, none⟩, ⟨some 6, .mv (.t 18), none⟩, ⟨some 7, .mv (.t 19), none⟩, ⟨some 8, .mv (.t 20), none⟩])
 (.seq (.region [⟨some 22, .mv (.t 0), none⟩, ⟨some 23, .mv (.t 1), none⟩, ⟨some 24, .call 38 [(.t 22), (.t 23)], none⟩, ⟨some 21, .mv (.t 24), none⟩, ⟨some 25, .ext (.t 21) 0, none⟩, ⟨some 26, .ext (.t 21) 1, none⟩, ⟨some 27, .ext (.t 21) 2, none⟩, ⟨some 28, .ext (.t 21) 3, none⟩, ⟨some 9, .alloc [.v (.int .i64 0), .v (.int .i64 0), .v (.int .i64 0)], none⟩, ⟨none, .store 3 (.t 9) (.t 25) 9, none⟩, ⟨some 10, .mv (.t 26), none⟩, ⟨some 11, .mv (.t 27), none⟩, ⟨some 12, .mv (.t 28), none⟩])
 (.seq (.region [⟨some 29, .call 36 [], none⟩, ⟨some 30, .mv (.t 29), none⟩, ⟨some 31, .mv (.t 8), some (30, true)⟩, ⟨some 32, .mv (.t 12), some (30, true)⟩, ⟨some 33, .bin .eql (.t 31) (.t 32), some (30, true)⟩, ⟨some 34, .pick (.t 30) (.t 33) (.k (.bool false)), none⟩, ⟨some 35, .mv (.t 34), none⟩, ⟨some 36, .load true 3 (.t 5) (some 5), some (35, true)⟩, ⟨some 37, .load true 3 (.t 9) (some 9), some (35, true)⟩, ⟨some 38, .eqs false [.i64, .i64, .i64] (.t 36) (.t 37), some (35, true)⟩, ⟨some 39, .pick (.t 35) (.t 38) (.k (.bool false)), none⟩, ⟨some 40, .mv (.t 39), none⟩, ⟨some 41, .mv (.t 6), some (40, true)⟩, ⟨some 42, .mv (.t 10), some (40, true)⟩, ⟨some 43, .bin .eql (.t 41) (.t 42), some (40, true)⟩, ⟨some 44, .pick (.t 40) (.t 43) (.k (.bool false)), none⟩, ⟨some 45, .mv (.t 44), none⟩, ⟨some 46, .mv (.t 7), some (45, true)⟩, ⟨some 47, .mv (.t 11), some (45, true)⟩, ⟨some 48, .bin .eql (.t 46) (.t 47), some (45, true)⟩, ⟨some 49, .pick (.t 45) (.t 48) (.k (.bool false)), none⟩, ⟨some 4, .mv (.t 49), none⟩])
 .ret))))⟩
theorem epactlaw23_CdsDecodes.chk : chkFn Try.prog Try.f9 epactlaw23_CdsDecodes.c = true := by kernel_rfl
theorem epactlaw23_CdsDecodes.ent : ∀ args w, (callFunc 9 args).run Try.prog w = .ok (.enter 9 args) w := enters Try.func9 (by kernel_rfl) (by kernel_rfl)

/-- epact/epactlaw23.CdsFloors -/
def epactlaw23_CdsFloors.c : SF := ⟨68, [.t 6],
 (.seq (.region [⟨some 3, .box (.t 0), none⟩, ⟨some 6, .mv (.k (.bool false)), none⟩])
 (.seq (.region [⟨some 15, .load true 3 (.t 3) (some 3), none⟩, ⟨some 16, .mv (.t 1), none⟩, ⟨some 17, .mv (.t 2), none⟩, ⟨some 18, .call 34 [(.t 15), (.t 16), (.t 17)], none⟩, ⟨some 14, .mv (.t 18), none⟩, ⟨some 19, .ext (.t 14) 0, none⟩, ⟨some 20, .ext (.t 14) 1, none⟩, ⟨some 7, .mv (.t 19), none⟩, ⟨some 8, .mv (.t 20), none⟩])
 (.seq (.seq (.region [⟨some 21, .mv (.t 8), none⟩, ⟨some 22, .bin .neq (.t 21) (.k (.int .i64 0)), none⟩])
 (.cond (.t 22)
 (.seq (.region [⟨some 23, .call 36 [], none⟩, ⟨some 6, .mv (.t 23), none⟩])
 .ret)
 .skip))
 (.seq (.region [⟨some 25, .mv (.t 7), none⟩, ⟨some 26, .fld 0 (.t 3), none⟩, ⟨some 27, .load false 1 (.t 26) (some 3), none⟩, ⟨some 28, .call 37 [(.t 25), (.t 27)], none⟩, ⟨some 24, .mv (.t 28), none⟩, ⟨some 29, .ext (.t 24) 0, none⟩, ⟨some 30, .ext (.t 24) 1, none⟩, ⟨some 31, .ext (.t 24) 2, none⟩, ⟨some 32, .ext (.t 24) 3, none⟩, ⟨some 9, .alloc [.v (.int .i64 0), .v (.int .i64 0), .v (.int .i64 0)], none⟩, ⟨none, .store 3 (.t 9) (.t 29) 9, none⟩, ⟨some 10, .mv (.t 30), none⟩, ⟨some 11, .mv (.t 31), none⟩, ⟨some 12, .mv (.t 32), none⟩])
 (.seq (.region [⟨some 13, .mv (.k (.int .i64 1000000000000000)), none⟩])
 (.seq (.seq (.region [⟨some 33, .mv (.t 2), none⟩, ⟨some 34, .bin .gtr (.t 33) (.k (.int .i64 0)), none⟩])
 (.cond (.t 34)
 (.region [⟨some 36, .mv (.t 2), none⟩, ⟨some 37, .call 39 [(.t 36)], none⟩, ⟨some 35, .mv (.t 37), none⟩, ⟨some 38, .ext (.t 35) 0, none⟩, ⟨some 39, .ext (.t 35) 1, none⟩, ⟨some 13, .mv (.t 38), none⟩])
 .skip))
 (.seq (.region [⟨some 40, .fld 2 (.t 3), none⟩, ⟨some 41, .load false 1 (.t 40) (some 3), none⟩, ⟨some 42, .fld 2 (.t 3), none⟩, ⟨some 43, .load false 1 (.t 42) (some 3), none⟩, ⟨some 44, .mv (.t 13), none⟩, ⟨some 45, .bin .rem (.t 43) (.t 44), none⟩, ⟨some 46, .bin .sub (.t 41) (.t 45), none⟩, ⟨some 47, .fld 2 (.t 3), none⟩, ⟨none, .store 1 (.t 47) (.t 46) 3, none⟩])
 (.seq (.region [⟨some 48, .call 36 [], none⟩, ⟨some 49, .mv (.t 48), none⟩, ⟨some 50, .mv (.t 12), some (49, true)⟩, ⟨some 51, .bin .eql (.t 50) (.k (.int .i64 0)), some (49, true)⟩, ⟨some 52, .pick (.t 49) (.t 51) (.k (.bool false)), none⟩, ⟨some 53, .mv (.t 52), none⟩, ⟨some 54, .load true 3 (.t 9) (some 9), some (53, true)⟩, ⟨some 55, .load true 3 (.t 3) (some 3), some (53, true)⟩, ⟨some 56, .eqs false [.i64, .i64, .i64] (.t 54) (.t 55), some (53, true)⟩, ⟨some 57, .pick (.t 53) (.t 56) (.k (.bool false)), none⟩, ⟨some 58, .mv (.t 57), none⟩, ⟨some 59, .mv (.t 10), some (58, true)⟩, ⟨some 60, .mv (.t 1), some (58, true)⟩, ⟨some 61, .bin .eql (.t 59) (.t 60), some (58, true)⟩, ⟨some 62, .pick (.t 58) (.t 61) (.k (.bool false)), none⟩, ⟨some 63, .mv (.t 62), none⟩, ⟨some 64, .mv (.t 11), some (63, true)⟩, ⟨some 65, .mv (.t 2), some (63, true)⟩, ⟨some 66, .bin .eql (.t 64) (.t 65), some (63, true)⟩, ⟨some 67, .pick (.t 63) (.t 66) (.k (.bool false)), none⟩, ⟨some 6, .mv (.t 67), none⟩])
 .ret))))))))⟩
theorem epactlaw23_CdsFloors.chk : chkFn Try.prog Try.f10 epactlaw23_CdsFloors.c = true := by kernel_rfl
theorem epactlaw23_CdsFloors.ent : ∀ args w, (callFunc 10 args).run Try.prog w = .ok (.enter 10 args) w := enters Try.func10 (by kernel_rfl) (by kernel_rfl)

/-- epact/epactlaw23.CdsSame -/
def epactlaw23_CdsSame.c : SF := ⟨44, [.t 4],
 (.seq (.region [⟨some 4, .mv (.k (.bool false)), none⟩])
 (.seq (.region [⟨some 12, .mv (.t 0), none⟩, ⟨some 13, .mv (.t 1), none⟩, ⟨some 14, .call 37 [(.t 12), (.t 13)], none⟩, ⟨some 11, .mv (.t 14), none⟩, ⟨some 15, .ext (.t 11) 0, none⟩, ⟨some 16, .ext (.t 11) 1, none⟩, ⟨some 17, .ext (.t 11) 2, none⟩, ⟨some 18, .ext (.t 11) 3, none⟩, ⟨some 5, .alloc [.v (.int .i64 0), .v (.int .i64 0), .v (.int .i64 0)], none⟩, ⟨none, .store 3 (.t 5) (.t 15) 5, none⟩, ⟨some 6, .mv (.t 16), none⟩, ⟨some 7, .mv (.t 17), none⟩, ⟨some 8, .mv (.t 18), none⟩])
 (.seq (.seq (.region [⟨some 19, .mv (.t 8), none⟩, ⟨some 20, .bin .neq (.t 19) (.k (.int .i64 0)), none⟩])
 (.cond (.t 20)
 (.seq (.region [⟨some 21, .call 36 [], none⟩, ⟨some 4, .mv (.t 21), none⟩])
 .ret)
 .skip))
 (.seq (.region [⟨some 23, .load true 3 (.t 5) (some 5), none⟩, ⟨some 24, .mv (.t 6), none⟩, ⟨some 25, .mv (.t 7), none⟩, ⟨some 26, .call 34 [(.t 23), (.t 24), (.t 25)], none⟩, ⟨some 22, .mv (.t 26), none⟩, ⟨some 27, .ext (.t 22) 0, none⟩, ⟨some 28, .ext (.t 22) 1, none⟩, ⟨some 9, .mv (.t 27), none⟩, ⟨some 10, .mv (.t 28), none⟩])
 (.seq (.region [⟨some 29, .call 36 [], none⟩, ⟨some 30, .mv (.t 29), none⟩, ⟨some 31, .mv (.t 10), some (30, true)⟩, ⟨some 32, .bin .eql (.t 31) (.k (.int .i64 0)), some (30, true)⟩, ⟨some 33, .pick (.t 30) (.t 32) (.k (.bool false)), none⟩, ⟨some 34, .mv (.t 33), none⟩, ⟨some 35, .mv (.t 0), some (34, true)⟩, ⟨some 36, .mv (.t 9), some (34, true)⟩, ⟨some 37, .call 30 [(.t 35), (.t 36)], some (34, true)⟩, ⟨some 38, .pick (.t 34) (.t 37) (.k (.bool false)), none⟩, ⟨some 39, .mv (.t 38), none⟩, ⟨some 40, .fld 0 (.t 5), some (39, true)⟩, ⟨some 41, .load false 1 (.t 40) (some 5), some (39, true)⟩, ⟨some 42, .call 40 [(.t 41)], some (39, true)⟩, ⟨some 43, .pick (.t 39) (.t 42) (.k (.bool false)), none⟩, ⟨some 4, .mv (.t 43), none⟩])
 .ret)))))⟩
theorem epactlaw23_CdsSame.chk : chkFn Try.prog Try.f11 epactlaw23_CdsSame.c = true := by kernel_rfl
theorem epactlaw23_CdsSame.ent : ∀ args w, (callFunc 11 args).run Try.prog w = .ok (.enter 11 args) w := enters Try.func11 (by kernel_rfl) (by kernel_rfl)

/-- epact/epactlaw20.NtpEncodes -/
def epactlaw20_NtpEncodes.c : SF := ⟨33, [.t 4],
 (.seq (.region [⟨some 3, .box (.t 1), none⟩, ⟨some 4, .mv (.k (.bool false)), none⟩])
 (.seq (.region [⟨some 10, .mv (.t 0), none⟩, ⟨some 11, .load true 2 (.t 3) (some 3), none⟩, ⟨some 12, .call 41 [(.t 10), (.t 11)], none⟩, ⟨some 9, .mv (.t 12), none⟩, ⟨some 13, .ext (.t 9) 0, none⟩, ⟨some 14, .ext (.t 9) 1, none⟩, ⟨some 5, .mv (.t 13), none⟩, ⟨some 6, .mv (.t 14), none⟩])
 (.seq (.region [⟨some 16, .mv (.t 0), none⟩, ⟨some 17, .load true 2 (.t 3) (some 3), none⟩, ⟨some 18, .call 22 [(.t 17)], none⟩, ⟨some 19, .call 42 [(.t 16), (.t 18)], none⟩, ⟨some 15, .mv (.t 19), none⟩, ⟨some 20, .ext (.t 15) 0, none⟩, ⟨some 21, .ext (.t 15) 1, none⟩, ⟨some 7, .mv (.t 20), none⟩, ⟨some 8, .mv (.t 21), none⟩])
 (.seq (.region [⟨some 22, .call 43 [], none⟩, ⟨some 23, .mv (.t 22), none⟩, ⟨some 24, .mv (.t 6), some (23, true)⟩, ⟨some 25, .mv (.t 8), some (23, true)⟩, ⟨some 26, .bin .eql (.t 24) (.t 25), some (23, true)⟩, ⟨some 27, .pick (.t 23) (.t 26) (.k (.bool false)), none⟩, ⟨some 28, .mv (.t 27), none⟩, ⟨some 29, .mv (.t 5), some (28, true)⟩, ⟨some 30, .mv (.t 7), some (28, true)⟩, ⟨some 31, .call 30 [(.t 29), (.t 30)], some (28, true)⟩, ⟨some 32, .pick (.t 28) (.t 31) (.k (.bool false)), none⟩, ⟨some 4, .mv (.t 32), none⟩])
 .ret))))⟩
theorem epactlaw20_NtpEncodes.chk : chkFn Try.prog Try.f12 epactlaw20_NtpEncodes.c = true := by kernel_rfl
theorem epactlaw20_NtpEncodes.ent : ∀ args w, (callFunc 12 args).run Try.prog w = .ok (.enter 12 args) w := enters Try.func12 (by kernel_rfl) (by kernel_rfl)

/-- epact/epactlaw20.NtpDecodes -/
def epactlaw20_NtpDecodes.c : SF := ⟨37, [.t 6],
 (.seq (.region [⟨some 5, .box (.t 2), none⟩, ⟨some 6, .mv (.k (.bool false)), none⟩])
 (.seq (.region [⟨some 12, .mv (.t 0), none⟩, ⟨some 13, .mv (.t 1), none⟩, ⟨some 14, .load true 2 (.t 5) (some 5), none⟩, ⟨some 15, .call 44 [(.t 12), (.t 13), (.t 14)], none⟩, ⟨some 11, .mv (.t 15), none⟩, ⟨some 16, .ext (.t 11) 0, none⟩, ⟨some 17, .ext (.t 11) 1, none⟩, ⟨some 7, .alloc [.v (.int .i64 0), .v (.int .u64 0)], none⟩, ⟨none, .store 2 (.t 7) (.t 16) 7, none⟩, ⟨some 8, .mv (.t 17), none⟩])
 (.seq (.region [⟨some 19, .mv (.t 0), none⟩, ⟨some 20, .mv (.t 1), none⟩, ⟨some 21, .load true 2 (.t 5) (some 5), none⟩, ⟨some 22, .call 22 [(.t 21)], none⟩, ⟨some 23, .call 45 [(.t 19), (.t 20), (.t 22)], none⟩, ⟨some 18, .mv (.t 23), none⟩, ⟨some 24, .ext (.t 18) 0, none⟩, ⟨some 25, .ext (.t 18) 1, none⟩, ⟨some 9, .alloc [.v (.int .i64 0), .v (.int .u64 0)], none⟩, ⟨none, .store 2 (.t 9) (.t 24) 9, none⟩, ⟨some 10, .mv (.t 25), none⟩])
 (.seq (.region [⟨some 26, .call 43 [], none⟩, ⟨some 27, .mv (.t 26), none⟩, ⟨some 28, .mv (.t 8), some (27, true)⟩, ⟨some 29, .mv (.t 10), some (27, true)⟩, ⟨some 30, .bin .eql (.t 28) (.t 29), some (27, true)⟩, ⟨some 31, .pick (.t 27) (.t 30) (.k (.bool false)), none⟩, ⟨some 32, .mv (.t 31), none⟩, ⟨some 33, .load true 2 (.t 7) (some 7), some (32, true)⟩, ⟨some 34, .load true 2 (.t 9) (some 9), some (32, true)⟩, ⟨some 35, .eqs false [.i64, .u64] (.t 33) (.t 34), some (32, true)⟩, ⟨some 36, .pick (.t 32) (.t 35) (.k (.bool false)), none⟩, ⟨some 6, .mv (.t 36), none⟩])
 .ret))))⟩
theorem epactlaw20_NtpDecodes.chk : chkFn Try.prog Try.f13 epactlaw20_NtpDecodes.c = true := by kernel_rfl
theorem epactlaw20_NtpDecodes.ent : ∀ args w, (callFunc 13 args).run Try.prog w = .ok (.enter 13 args) w := enters Try.func13 (by kernel_rfl) (by kernel_rfl)

/-- epact/epactlaw20.NtpFloors -/
def epactlaw20_NtpFloors.c : SF := ⟨69, [.t 4],
 (.seq (.region [⟨some 3, .box (.t 1), none⟩, ⟨some 4, .mv (.k (.bool false)), none⟩])
 (.seq (.region [⟨some 12, .mv (.t 0), none⟩, ⟨some 13, .load true 2 (.t 3) (some 3), none⟩, ⟨some 14, .call 41 [(.t 12), (.t 13)], none⟩, ⟨some 11, .mv (.t 14), none⟩, ⟨some 15, .ext (.t 11) 0, none⟩, ⟨some 16, .ext (.t 11) 1, none⟩, ⟨some 5, .mv (.t 15), none⟩, ⟨some 6, .mv (.t 16), none⟩])
 (.seq (.seq (.region [⟨some 17, .mv (.t 6), none⟩, ⟨some 18, .bin .neq (.t 17) (.k (.int .i64 0)), none⟩])
 (.cond (.t 18)
 (.seq (.region [⟨some 19, .call 43 [], none⟩, ⟨some 4, .mv (.t 19), none⟩])
 .ret)
 .skip))
 (.seq (.region [⟨some 21, .mv (.t 0), none⟩, ⟨some 22, .mv (.t 5), none⟩, ⟨some 23, .load true 2 (.t 3) (some 3), none⟩, ⟨some 24, .call 44 [(.t 21), (.t 22), (.t 23)], none⟩, ⟨some 20, .mv (.t 24), none⟩, ⟨some 25, .ext (.t 20) 0, none⟩, ⟨some 26, .ext (.t 20) 1, none⟩, ⟨some 7, .alloc [.v (.int .i64 0), .v (.int .u64 0)], none⟩, ⟨none, .store 2 (.t 7) (.t 25) 7, none⟩, ⟨some 8, .mv (.t 26), none⟩])
 (.seq (.seq (.region [⟨some 27, .mv (.t 8), none⟩, ⟨some 28, .bin .neq (.t 27) (.k (.int .i64 0)), none⟩])
 (.cond (.t 28)
 (.seq (.region [⟨some 29, .call 43 [], none⟩, ⟨some 30, .mv (.t 29), none⟩, ⟨some 31, .mv (.t 8), some (30, true)⟩, ⟨some 32, .bin .eql (.t 31) (.k (.int .i64 2)), some (30, true)⟩, ⟨some 33, .pick (.t 30) (.t 32) (.k (.bool false)), none⟩, ⟨some 34, .mv (.t 33), none⟩, ⟨some 35, .mv (.t 0), some (34, true)⟩, ⟨some 36, .bin .neq (.t 35) (.k (.int .i64 128)), some (34, true)⟩, ⟨some 37, .pick (.t 34) (.t 36) (.k (.bool false)), none⟩, ⟨some 4, .mv (.t 37), none⟩])
 .ret)
 .skip))
 (.seq (.region [⟨some 38, .load true 2 (.t 3) (some 3), none⟩, ⟨some 39, .call 22 [(.t 38)], none⟩, ⟨some 40, .load true 2 (.t 7) (some 7), none⟩, ⟨some 41, .call 22 [(.t 40)], none⟩, ⟨some 42, .call 46 [(.t 39), (.t 41)], none⟩, ⟨some 9, .alloc [.v (.bool false), .nil .i64], none⟩, ⟨none, .store 2 (.t 9) (.t 42) 9, none⟩])
 (.seq (.region [⟨some 43, .load true 2 (.t 9) (some 9), none⟩, ⟨some 44, .mv (.t 0), none⟩, ⟨some 45, .bin .quo (.t 44) (.k (.int .i64 16)), none⟩, ⟨some 46, .call 47 [(.t 45)], none⟩, ⟨some 47, .call 33 [(.t 43), (.t 46)], none⟩, ⟨some 10, .alloc [.v (.bool false), .nil .i64], none⟩, ⟨none, .store 2 (.t 10) (.t 47) 10, none⟩])
 (.seq (.region [⟨some 48, .call 43 [], none⟩, ⟨some 49, .mv (.t 48), none⟩, ⟨some 50, .fld 0 (.t 9), some (49, true)⟩, ⟨some 51, .load false 1 (.t 50) (some 9), some (49, true)⟩, ⟨some 52, .not (.t 51), some (49, true)⟩, ⟨some 53, .pick (.t 49) (.t 52) (.k (.bool false)), none⟩, ⟨some 54, .mv (.t 53), none⟩, ⟨some 55, .load true 2 (.t 10) (some 10), some (54, true)⟩, ⟨some 56, .call 24 [(.k (.int .i64 1000000000000000000))], some (54, true)⟩, ⟨some 57, .call 48 [(.t 55), (.t 56)], some (54, true)⟩, ⟨some 58, .bin .lss (.t 57) (.k (.int .i64 0)), some (54, true)⟩, ⟨some 59, .pick (.t 54) (.t 58) (.k (.bool false)), none⟩, ⟨some 60, .mv (.t 59), none⟩, ⟨some 61, .mv (.t 0), some (60, true)⟩, ⟨some 62, .bin .neq (.t 61) (.k (.int .i64 128)), some (60, true)⟩, ⟨some 63, .mv (.t 62), some (60, true)⟩, ⟨some 64, .load true 2 (.t 3) (some 3), some (63, false)⟩, ⟨some 65, .load true 2 (.t 7) (some 7), some (63, false)⟩, ⟨some 66, .eqs false [.i64, .u64] (.t 64) (.t 65), some (63, false)⟩, ⟨some 67, .pick (.t 63) (.k (.bool true)) (.t 66), some (60, true)⟩, ⟨some 68, .pick (.t 60) (.t 67) (.k (.bool false)), none⟩, ⟨some 4, .mv (.t 68), none⟩])
 .ret))))))))⟩
theorem epactlaw20_NtpFloors.chk : chkFn Try.prog Try.f14 epactlaw20_NtpFloors.c = true := by kernel_rfl
theorem epactlaw20_NtpFloors.ent : ∀ args w, (callFunc 14 args).run Try.prog w = .ok (.enter 14 args) w := enters Try.func14 (by kernel_rfl) (by kernel_rfl)

/-- epact/epactlaw20.NtpSame -/
def epactlaw20_NtpSame.c : SF := ⟨37, [.t 6],
 (.seq (.region [⟨some 5, .box (.t 2), none⟩, ⟨some 6, .mv (.k (.bool false)), none⟩])
 (.seq (.region [⟨some 12, .mv (.t 0), none⟩, ⟨some 13, .mv (.t 1), none⟩, ⟨some 14, .load true 2 (.t 5) (some 5), none⟩, ⟨some 15, .call 44 [(.t 12), (.t 13), (.t 14)], none⟩, ⟨some 11, .mv (.t 15), none⟩, ⟨some 16, .ext (.t 11) 0, none⟩, ⟨some 17, .ext (.t 11) 1, none⟩, ⟨some 7, .alloc [.v (.int .i64 0), .v (.int .u64 0)], none⟩, ⟨none, .store 2 (.t 7) (.t 16) 7, none⟩, ⟨some 8, .mv (.t 17), none⟩])
 (.seq (.seq (.region [⟨some 18, .mv (.t 8), none⟩, ⟨some 19, .bin .neq (.t 18) (.k (.int .i64 0)), none⟩])
 (.cond (.t 19)
 (.seq (.region [⟨some 20, .call 43 [], none⟩, ⟨some 6, .mv (.t 20), none⟩])
 .ret)
 .skip))
 (.seq (.region [⟨some 22, .mv (.t 0), none⟩, ⟨some 23, .load true 2 (.t 7) (some 7), none⟩, ⟨some 24, .call 41 [(.t 22), (.t 23)], none⟩, ⟨some 21, .mv (.t 24), none⟩, ⟨some 25, .ext (.t 21) 0, none⟩, ⟨some 26, .ext (.t 21) 1, none⟩, ⟨some 9, .mv (.t 25), none⟩, ⟨some 10, .mv (.t 26), none⟩])
 (.seq (.region [⟨some 27, .call 43 [], none⟩, ⟨some 28, .mv (.t 27), none⟩, ⟨some 29, .mv (.t 10), some (28, true)⟩, ⟨some 30, .bin .eql (.t 29) (.k (.int .i64 0)), some (28, true)⟩, ⟨some 31, .pick (.t 28) (.t 30) (.k (.bool false)), none⟩, ⟨some 32, .mv (.t 31), none⟩, ⟨some 33, .mv (.t 1), some (32, true)⟩, ⟨some 34, .mv (.t 9), some (32, true)⟩, ⟨some 35, .call 30 [(.t 33), (.t 34)], some (32, true)⟩, ⟨some 36, .pick (.t 32) (.t 35) (.k (.bool false)), none⟩, ⟨some 6, .mv (.t 36), none⟩])
 .ret)))))⟩
theorem epactlaw20_NtpSame.chk : chkFn Try.prog Try.f15 epactlaw20_NtpSame.c = true := by kernel_rfl
theorem epactlaw20_NtpSame.ent : ∀ args w, (callFunc 15 args).run Try.prog w = .ok (.enter 15 args) w := enters Try.func15 (by kernel_rfl) (by kernel_rfl)

/-- epact/epactlaw22.CucEncodes -/
def epactlaw22_CucEncodes.c : SF := ⟨37, [.t 6],
 (.seq (.region [⟨some 3, .box (.t 0), none⟩, ⟨some 6, .mv (.k (.bool false)), none⟩])
 (.seq (.region [⟨some 12, .load true 2 (.t 3) (some 3), none⟩, ⟨some 13, .mv (.t 1), none⟩, ⟨some 14, .mv (.t 2), none⟩, ⟨some 15, .call 49 [(.t 12), (.t 13), (.t 14)], none⟩, ⟨some 11, .mv (.t 15), none⟩, ⟨some 16, .ext (.t 11) 0, none⟩, ⟨some 17, .ext (.t 11) 1, none⟩, ⟨some 7, .mv (.t 16), none⟩, ⟨some 8, .mv (.t 17), none⟩])
 (.seq (.region [⟨some 19, .load true 2 (.t 3) (some 3), none⟩, ⟨some 20, .call 22 [(.t 19)], none⟩, ⟨some 21, .mv (.t 1), none⟩, ⟨some 22, .mv (.t 2), none⟩, ⟨some 23, .call 50 [(.t 20), (.t 21), (.t 22)], none⟩, ⟨some 18, .mv (.t 23), none⟩, ⟨some 24, .ext (.t 18) 0, none⟩, ⟨some 25, .ext (.t 18) 1, none⟩, ⟨some 9, .mv (.t 24), none⟩, ⟨some 10, .mv (.t 25), none⟩])
 (.seq (.region [⟨some 26, .call 51 [], none⟩, ⟨some 27, .mv (.t 26), none⟩, ⟨some 28, .mv (.t 8), some (27, true)⟩, ⟨some 29, .mv (.t 10), some (27, true)⟩, ⟨some 30, .bin .eql (.t 28) (.t 29), some (27, true)⟩, ⟨some 31, .pick (.t 27) (.t 30) (.k (.bool false)), none⟩, ⟨some 32, .mv (.t 31), none⟩, ⟨some 33, .mv (.t 7), some (32, true)⟩, ⟨some 34, .mv (.t 9), some (32, true)⟩, ⟨some 35, .call 30 [(.t 33), (.t 34)], some (32, true)⟩, ⟨some 36, .pick (.t 32) (.t 35) (.k (.bool false)), none⟩, ⟨some 6, .mv (.t 36), none⟩])
 .ret))))⟩
theorem epactlaw22_CucEncodes.chk : chkFn Try.prog Try.f16 epactlaw22_CucEncodes.c = true := by kernel_rfl
theorem epactlaw22_CucEncodes.ent : ∀ args w, (callFunc 16 args).run Try.prog w = .ok (.enter 16 args) w := enters Try.func16 (by kernel_rfl) (by kernel_rfl)

/-- epact/epactlaw22.CucDecodes -/
def epactlaw22_CucDecodes.c : SF := ⟨51, [.t 4],
 (.seq (.region [⟨some 3, .box (.t 1), none⟩, ⟨some 4, .mv (.k (.bool false)), none⟩])
 (.seq (.region [⟨some 14, .mv (.t 0), none⟩, ⟨some 15, .load true 2 (.t 3) (some 3), none⟩, ⟨some 16, .call 52 [(.t 14), (.t 15)], none⟩, ⟨some 13, .mv (.t 16), none⟩, ⟨some 17, .ext (.t 13) 0, none⟩, ⟨some 18, .ext (.t 13) 1, none⟩, ⟨some 19, .ext (.t 13) 2, none⟩, ⟨some 20, .ext (.t 13) 3, none⟩, ⟨some 5, .alloc [.v (.int .i64 0), .v (.int .u64 0)], none⟩, ⟨none, .store 2 (.t 5) (.t 17) 5, none⟩, ⟨some 6, .mv (.t 18), none⟩, ⟨some 7, .mv (.t 19), none⟩, ⟨some 8, .mv (.t 20), none⟩])
 (.seq (.region [⟨some 22, .mv (.t 0), none⟩, ⟨some 23, .load true 2 (.t 3) (some 3), none⟩, ⟨some 24, .call 22 [(.t 23)], none⟩, ⟨some 25, .call 53 [(.t 22), (.t 24)], none⟩, ⟨some 21, .mv (.t 25), none⟩, ⟨some 26, .ext (.t 21) 0, none⟩, ⟨some 27, .ext (.t 21) 1, none⟩, ⟨some 28, .ext (.t 21) 2, none⟩, ⟨some 29, .ext (.t 21) 3, none⟩, ⟨some 9, .alloc [.v (.int .i64 0), .v (.int .u64 0)], none⟩, ⟨none, .store 2 (.t 9) (.t 26) 9, none⟩, ⟨some 10, .mv (.t 27), none⟩, ⟨some 11, .mv (.t 28), none⟩, ⟨some 12, .mv (.t 29), none⟩])
 (.seq (.region [⟨some 30, .call 51 [], none⟩, ⟨some 31, .mv (.t 30), none⟩, ⟨some 32, .mv (.t 8), some (31, true)⟩, ⟨some 33, .mv (.t 12), some (31, true)⟩, ⟨some 34, .bin .eql (.t 32) (.t 33), some (31, true)⟩, ⟨some 35, .pick (.t 31) (.t 34) (.k (.bool false)), none⟩, ⟨some 36, .mv (.t 35), none⟩, ⟨some 37, .load true 2 (.t 5) (some 5), some (36, true)⟩, ⟨some 38, .load true 2 (.t 9) (some 9), some (36, true)⟩, ⟨some 39, .eqs false [.i64, .u64] (.t 37) (.t 38), some (36, true)⟩, ⟨some 40, .pick (.t 36) (.t 39) (.k (.bool false)), none⟩, ⟨some 41, .mv (.t 40), none⟩, ⟨some 42, .mv (.t 6), some (41, true)⟩, ⟨some 43, .mv (.t 10), some (41, true)⟩, ⟨some 44, .bin .eql (.t 42) (.t 43), some (41, true)⟩, ⟨some 45, .pick (.t 41) (.t 44) (.k (.bool false)), none⟩, ⟨some 46, .mv (.t 45), none⟩, ⟨some 47, .mv (.t 7), some (46, true)⟩, ⟨some 48, .mv (.t 11), some (46, true)⟩, ⟨some 49, .bin .eql (.t 47) (.t 48), some (46, true)⟩, ⟨some 50, .pick (.t 46) (.t 49) (.k (.bool false)), none⟩, ⟨some 4, .mv (.t 50), none⟩])
 .ret))))⟩
theorem epactlaw22_CucDecodes.chk : chkFn Try.prog Try.f17 epactlaw22_CucDecodes.c = true := by kernel_rfl
theorem epactlaw22_CucDecodes.ent : ∀ args w, (callFunc 17 args).run Try.prog w = .ok (.enter 17 args) w := enters Try.func17 (by kernel_rfl) (by kernel_rfl)

/-- epact/epactlaw22.CucFloors -/
def epactlaw22_CucFloors.c : SF := ⟨78, [.t 6],
 (.seq (.region [⟨some 3, .box (.t 0), none⟩, ⟨some 6, .mv (.k (.bool false)), none⟩])
 (.seq (.region [⟨some 15, .load true 2 (.t 3) (some 3), none⟩, ⟨some 16, .mv (.t 1), none⟩, ⟨some 17, .mv (.t 2), none⟩, ⟨some 18, .call 49 [(.t 15), (.t 16), (.t 17)], none⟩, ⟨some 14, .mv (.t 18), none⟩, ⟨some 19, .ext (.t 14) 0, none⟩, ⟨some 20, .ext (.t 14) 1, none⟩, ⟨some 7, .mv (.t 19), none⟩, ⟨some 8, .mv (.t 20), none⟩])
 (.seq (.seq (.region [⟨some 21, .mv (.t 8), none⟩, ⟨some 22, .bin .neq (.t 21) (.k (.int .i64 0)), none⟩])
 (.cond (.t 22)
 (.seq (.region [⟨some 23, .call 51 [], none⟩, ⟨some 6, .mv (.t 23), none⟩])
 .ret)
 .skip))
 (.seq (.region [⟨some 25, .mv (.t 7), none⟩, ⟨some 26, .load true 2 (.t 3) (some 3), none⟩, ⟨some 27, .call 52 [(.t 25), (.t 26)], none⟩, ⟨some 24, .mv (.t 27), none⟩, ⟨some 28, .ext (.t 24) 0, none⟩, ⟨some 29, .ext (.t 24) 1, none⟩, ⟨some 30, .ext (.t 24) 2, none⟩, ⟨some 31, .ext (.t 24) 3, none⟩, ⟨some 9, .alloc [.v (.int .i64 0), .v (.int .u64 0)], none⟩, ⟨none, .store 2 (.t 9) (.t 28) 9, none⟩, ⟨some 10, .mv (.t 29), none⟩, ⟨some 11, .mv (.t 30), none⟩, ⟨some 12, .mv (.t 31), none⟩])
 (.seq (.seq (.region [⟨some 32, .mv (.t 12), none⟩, ⟨some 33, .bin .neq (.t 32) (.k (.int .i64 0)), none⟩])
 (.cond (.t 33)
 (.seq (.region [⟨some 34, .call 51 [], none⟩, ⟨some 35, .mv (.t 34), none⟩, ⟨some 36, .mv (.t 12), some (35, true)⟩, ⟨some 37, .bin .eql (.t 36) (.k (.int .i64 2)), some (35, true)⟩, ⟨some 38, .pick (.t 35) (.t 37) (.k (.bool false)), none⟩, ⟨some 6, .mv (.t 38), none⟩])
 .ret)
 .skip))
 (.seq (.region [⟨some 39, .load true 2 (.t 3) (some 3), none⟩, ⟨some 40, .call 22 [(.t 39)], none⟩, ⟨some 41, .load true 2 (.t 9) (some 9), none⟩, ⟨some 42, .call 22 [(.t 41)], none⟩, ⟨some 43, .call 46 [(.t 40), (.t 42)], none⟩, ⟨some 13, .alloc [.v (.bool false), .nil .i64], none⟩, ⟨none, .store 2 (.t 13) (.t 43) 13, none⟩])
 (.seq (.region [⟨some 44, .call 51 [], none⟩, ⟨some 45, .mv (.t 44), none⟩, ⟨some 46, .mv (.t 10), some (45, true)⟩, ⟨some 47, .mv (.t 1), some (45, true)⟩, ⟨some 48, .bin .eql (.t 46) (.t 47), some (45, true)⟩, ⟨some 49, .pick (.t 45) (.t 48) (.k (.bool false)), none⟩, ⟨some 50, .mv (.t 49), none⟩, ⟨some 51, .mv (.t 11), some (50, true)⟩, ⟨some 52, .mv (.t 2), some (50, true)⟩, ⟨some 53, .bin .eql (.t 51) (.t 52), some (50, true)⟩, ⟨some 54, .pick (.t 50) (.t 53) (.k (.bool false)), none⟩, ⟨some 55, .mv (.t 54), none⟩, ⟨some 56, .fld 0 (.t 13), some (55, true)⟩, ⟨some 57, .load false 1 (.t 56) (some 13), some (55, true)⟩, ⟨some 58, .not (.t 57), some (55, true)⟩, ⟨some 59, .pick (.t 55) (.t 58) (.k (.bool false)), none⟩, ⟨some 60, .mv (.t 59), none⟩, ⟨some 61, .load true 2 (.t 13) (some 13), some (60, true)⟩, ⟨some 62, .mv (.t 2), some (60, true)⟩, ⟨some 63, .call 47 [(.t 62)], some (60, true)⟩, ⟨some 64, .call 33 [(.t 61), (.t 63)], some (60, true)⟩, ⟨some 65, .call 24 [(.k (.int .i64 1000000000000000000))], some (60, true)⟩, ⟨some 66, .call 48 [(.t 64), (.t 65)], some (60, true)⟩, ⟨some 67, .bin .lss (.t 66) (.k (.int .i64 0)), some (60, true)⟩, ⟨some 68, .pick (.t 60) (.t 67) (.k (.bool false)), none⟩, ⟨some 69, .mv (.t 68), none⟩, ⟨some 70, .mv (.t 2), some (69, true)⟩, ⟨some 71, .bin .lss (.t 70) (.k (.int .i64 8)), some (69, true)⟩, ⟨some 72, .mv (.t 71), some (69, true)⟩, ⟨some 73, .load true 2 (.t 3) (some 3), some (72, false)⟩, ⟨some 74, .load true 2 (.t 9) (some 9), some (72, false)⟩, ⟨some 75, .eqs false [.i64, .u64] (.t 73) (.t 74), some (72, false)⟩, ⟨some 76, .pick (.t 72) (.k (.bool true)) (.t 75), some (69, true)⟩, ⟨some 77, .pick (.t 69) (.t 76) (.k (.bool false)), none⟩, ⟨some 6, .mv (.t 77), none⟩])
 .ret)))))))⟩
theorem epactlaw22_CucFloors.chk : chkFn Try.prog Try.f18 epactlaw22_CucFloors.c = true := by kernel_rfl
theorem epactlaw22_CucFloors.ent : ∀ args w, (callFunc 18 args).run Try.prog w = .ok (.enter 18 args) w := enters Try.func18 (by kernel_rfl) (by kernel_rfl)

/-- epact/epactlaw22.CucSame -/
def epactlaw22_CucSame.c : SF := ⟨39, [.t 4],
 (.seq (.region [⟨some 3, .box (.t 1), none⟩, ⟨some 4, .mv (.k (.bool false)), none⟩])
 (.seq (.region [⟨some 12, .mv (.t 0), none⟩, ⟨some 13, .load true 2 (.t 3) (some 3), none⟩, ⟨some 14, .call 52 [(.t 12), (.t 13)], none⟩, ⟨some 11, .mv (.t 14), none⟩, ⟨some 15, .ext (.t 11) 0, none⟩, ⟨some 16, .ext (.t 11) 1, none⟩, ⟨some 17, .ext (.t 11) 2, none⟩, ⟨some 18, .ext (.t 11) 3, none⟩, ⟨some 5, .alloc [.v (.int .i64 0), .v (.int .u64 0)], none⟩, ⟨none, .store 2 (.t 5) (.t 15) 5, none⟩, ⟨some 6, .mv (.t 16), none⟩, ⟨some 7, .mv (.t 17), none⟩, ⟨some 8, .mv (.t 18), none⟩])
 (.seq (.seq (.region [⟨some 19, .mv (.t 8), none⟩, ⟨some 20, .bin .neq (.t 19) (.k (.int .i64 0)), none⟩])
 (.cond (.t 20)
 (.seq (.region [⟨some 21, .call 51 [], none⟩, ⟨some 4, .mv (.t 21), none⟩])
 .ret)
 .skip))
 (.seq (.region [⟨some 23, .load true 2 (.t 5) (some 5), none⟩, ⟨some 24, .mv (.t 6), none⟩, ⟨some 25, .mv (.t 7), none⟩, ⟨some 26, .call 49 [(.t 23), (.t 24), (.t 25)], none⟩, ⟨some 22, .mv (.t 26), none⟩, ⟨some 27, .ext (.t 22) 0, none⟩, ⟨some 28, .ext (.t 22) 1, none⟩, ⟨some 9, .mv (.t 27), none⟩, ⟨some 10, .mv (.t 28), none⟩])
 (.seq (.region [⟨some 29, .call 51 [], none⟩, ⟨some 30, .mv (.t 29), none⟩, ⟨some 31, .mv (.t 10), some (30, true)⟩, ⟨some 32, .bin .eql (.t 31) (.k (.int .i64 0)), some (30, true)⟩, ⟨some 33, .pick (.t 30) (.t 32) (.k (.bool false)), none⟩, ⟨some 34, .mv (.t 33), none⟩, ⟨some 35, .mv (.t 0), some (34, true)⟩, ⟨some 36, .mv (.t 9), some (34, true)⟩, ⟨some 37, .call 30 [(.t 35), (.t 36)], some (34, true)⟩, ⟨some 38, .pick (.t 34) (.t 37) (.k (.bool false)), none⟩, ⟨some 4, .mv (.t 38), none⟩])
 .ret)))))⟩
theorem epactlaw22_CucSame.chk : chkFn Try.prog Try.f19 epactlaw22_CucSame.c = true := by kernel_rfl
theorem epactlaw22_CucSame.ent : ∀ args w, (callFunc 19 args).run Try.prog w = .ok (.enter 19 args) w := enters Try.func19 (by kernel_rfl) (by kernel_rfl)

/-- epact/gps.Week -/
def gps_Week.c : SF := ⟨43, [.t 2, .t 3, .t 4],
 (.seq (.region [⟨some 1, .box (.t 0), none⟩, ⟨some 2, .mv (.k (.int .i64 0)), none⟩, ⟨some 3, .mv (.k (.int .i64 0)), none⟩, ⟨some 4, .mv (.k (.int .i64 0)), none⟩])
 (.seq (.region [⟨some 12, .load true 2 (.t 1) (some 1), none⟩, ⟨some 13, .call 55 [(.k (.int .i64 1000000000000000000))], none⟩, ⟨some 14, .call 54 [(.t 12), (.t 13)], none⟩, ⟨some 11, .mv (.t 14), none⟩, ⟨some 15, .ext (.t 11) 0, none⟩, ⟨some 16, .ext (.t 11) 1, none⟩, ⟨some 17, .ext (.t 11) 2, none⟩, ⟨some 5, .alloc [.v (.int .i64 0), .v (.int .u64 0)], none⟩, ⟨some 6, .alloc [.v (.int .i64 0), .v (.int .u64 0)], none⟩, ⟨none, .store 2 (.t 5) (.t 15) 5, none⟩, ⟨none, .store 2 (.t 6) (.t 16) 6, none⟩, ⟨some 7, .mv (.t 17), none⟩])
 (.seq (.region [⟨some 19, .load true 2 (.t 5) (some 5), none⟩, ⟨some 20, .call 55 [(.k (.int .i64 604800))], none⟩, ⟨some 21, .call 54 [(.t 19), (.t 20)], none⟩, ⟨some 18, .mv (.t 21), none⟩, ⟨some 22, .ext (.t 18) 0, none⟩, ⟨some 23, .ext (.t 18) 1, none⟩, ⟨some 24, .ext (.t 18) 2, none⟩, ⟨some 8, .alloc [.v (.int .i64 0), .v (.int .u64 0)], none⟩, ⟨some 9, .alloc [.v (.int .i64 0), .v (.int .u64 0)], none⟩, ⟨none, .store 2 (.t 8) (.t 22) 8, none⟩, ⟨none, .store 2 (.t 9) (.t 23) 9, none⟩, ⟨some 10, .mv (.t 24), none⟩])
 (.seq (.region [⟨some 26, .load true 2 (.t 8) (some 8), none⟩, ⟨some 27, .call 56 [(.t 26)], none⟩, ⟨some 25, .mv (.t 27), none⟩, ⟨some 28, .ext (.t 25) 0, none⟩, ⟨some 29, .ext (.t 25) 1, none⟩, ⟨some 2, .mv (.t 28), none⟩])
 (.seq (.region [⟨some 31, .load true 2 (.t 9) (some 9), none⟩, ⟨some 32, .call 56 [(.t 31)], none⟩, ⟨some 30, .mv (.t 32), none⟩, ⟨some 33, .ext (.t 30) 0, none⟩, ⟨some 34, .ext (.t 30) 1, none⟩, ⟨some 3, .mv (.t 33), none⟩])
 (.seq (.region [⟨some 36, .load true 2 (.t 6) (some 6), none⟩, ⟨some 37, .call 56 [(.t 36)], none⟩, ⟨some 35, .mv (.t 37), none⟩, ⟨some 38, .ext (.t 35) 0, none⟩, ⟨some 39, .ext (.t 35) 1, none⟩, ⟨some 4, .mv (.t 38), none⟩])
 (.seq (.region [⟨some 40, .mv (.t 2), none⟩, ⟨some 41, .mv (.t 3), none⟩, ⟨some 42, .mv (.t 4), none⟩, ⟨some 2, .mv (.t 40), none⟩, ⟨some 3, .mv (.t 41), none⟩, ⟨some 4, .mv (.t 42), none⟩])
 .ret)))))))⟩
theorem gps_Week.chk : chkFn Try.prog Try.f20 gps_Week.c = true := by kernel_rfl
theorem gps_Week.ent : ∀ args w, (callFunc 20 args).run Try.prog w = .ok (.enter 20 args) w := enters Try.func20 (by kernel_rfl) (by kernel_rfl)

/-- epact/epactref19.Cut -/
def epactref19_Cut.c : SF := ⟨21, [.c 2 true 2, .t 3],
 (.seq (.region [⟨some 1, .box (.t 0), none⟩, ⟨some 2, .alloc [.v (.bool false), .nil .i64], none⟩, ⟨some 3, .mv (.k (.int .i64 0)), none⟩])
 (.seq (.region [⟨some 9, .load true 2 (.t 1) (some 1), none⟩, ⟨some 10, .call 24 [(.k (.int .i64 1000000000000000000))], none⟩, ⟨some 11, .call 23 [(.t 9), (.t 10)], none⟩, ⟨some 8, .mv (.t 11), none⟩, ⟨some 12, .ext (.t 8) 0, none⟩, ⟨some 13, .ext (.t 8) 1, none⟩, ⟨some 4, .alloc [.v (.bool false), .nil .i64], none⟩, ⟨some 5, .alloc [.v (.bool false), .nil .i64], none⟩, ⟨none, .store 2 (.t 4) (.t 12) 4, none⟩, ⟨none, .store 2 (.t 5) (.t 13) 5, none⟩])
 (.seq (.region [⟨some 15, .load true 2 (.t 5) (some 5), none⟩, ⟨some 16, .call 25 [(.t 15)], none⟩, ⟨some 14, .mv (.t 16), none⟩, ⟨some 17, .ext (.t 14) 0, none⟩, ⟨some 18, .ext (.t 14) 1, none⟩, ⟨some 6, .mv (.t 17), none⟩, ⟨some 7, .mv (.t 18), none⟩])
 (.seq (.region [⟨some 19, .load true 2 (.t 4) (some 4), none⟩, ⟨some 20, .mv (.t 6), none⟩, ⟨none, .store 2 (.t 2) (.t 19) 2, none⟩, ⟨some 3, .mv (.t 20), none⟩])
 .ret))))⟩
theorem epactref19_Cut.chk : chkFn Try.prog Try.f21 epactref19_Cut.c = true := by kernel_rfl
theorem epactref19_Cut.ent : ∀ args w, (callFunc 21 args).run Try.prog w = .ok (.enter 21 args) w := enters Try.func21 (by kernel_rfl) (by kernel_rfl)

/-- epact/epactref01.Of -/
def epactref01_Of.c : SF := ⟨14, [.c 2 true 2],
 (.seq (.region [⟨some 1, .box (.t 0), none⟩, ⟨some 2, .alloc [.v (.bool false), .nil .i64], none⟩])
 (.seq (.region [⟨some 4, .fld 0 (.t 1), none⟩, ⟨some 5, .load false 1 (.t 4) (some 1), none⟩, ⟨some 6, .call 24 [(.t 5)], none⟩, ⟨some 3, .alloc [.v (.bool false), .nil .i64], none⟩, ⟨none, .store 2 (.t 3) (.t 6) 3, none⟩])
 (.seq (.region [⟨some 7, .load true 2 (.t 3) (some 3), none⟩, ⟨some 8, .call 58 [(.k (.int .i64 64))], none⟩, ⟨some 9, .call 33 [(.t 7), (.t 8)], none⟩, ⟨some 10, .fld 1 (.t 1), none⟩, ⟨some 11, .load false 1 (.t 10) (some 1), none⟩, ⟨some 12, .call 59 [(.t 11)], none⟩, ⟨some 13, .call 57 [(.t 9), (.t 12)], none⟩, ⟨none, .store 2 (.t 2) (.t 13) 2, none⟩])
 .ret)))⟩
theorem epactref01_Of.chk : chkFn Try.prog Try.f22 epactref01_Of.c = true := by kernel_rfl
theorem epactref01_Of.ent : ∀ args w, (callFunc 22 args).run Try.prog w = .ok (.enter 22 args) w := enters Try.func22 (by kernel_rfl) (by kernel_rfl)

/-- epact/epactref01.Div -/
def epactref01_Div.l1 : SC :=
 (.seq (.seq (.region [⟨some 19, .mv (.t 8), none⟩, ⟨some 20, .bin .geq (.t 19) (.k (.int .i64 0)), none⟩])
 (.cond (.t 20)
 .skip
 (.exit 0)))
 (.seq (.block 1
 (.seq (.region [⟨some 23, .fld 1 (.t 2), none⟩, ⟨some 24, .load false 1 (.t 23) (some 2), none⟩, ⟨some 25, .mv (.t 8), none⟩, ⟨some 26, .idx 1 (.t 24) (.t 25), none⟩, ⟨some 27, .load false 1 (.t 26) none, none⟩, ⟨some 28, .bldS ⟨3, 1, some .i64⟩ [.v (.int .i64 0)] 1 [(0, 1, (.t 27))], none⟩, ⟨some 29, .mv (.t 7), none⟩, ⟨some 30, .app ⟨3, 1, some .i64⟩ (.t 28) (.t 29), none⟩, ⟨some 31, .callR 60 [(.t 30)], none⟩, ⟨some 7, .mv (.t 31), none⟩])
 (.seq (.region [⟨some 32, .mv (.t 6), none⟩, ⟨some 33, .mv (.t 8), none⟩, ⟨some 34, .mv (.t 7), none⟩, ⟨some 35, .fld 1 (.t 3), none⟩, ⟨some 36, .load false 1 (.t 35) (some 3), none⟩, ⟨some 37, .call 61 [(.t 34), (.t 36)], none⟩, ⟨some 38, .idx 1 (.t 32) (.t 33), none⟩, ⟨none, .store 1 (.t 38) (.t 37) 14, none⟩])
 (.region [⟨some 39, .mv (.t 7), none⟩, ⟨some 40, .fld 1 (.t 3), none⟩, ⟨some 41, .load false 1 (.t 40) (some 3), none⟩, ⟨some 42, .build [.v (.bool false), .nil .i64] [(1, 1, (.t 41))], none⟩, ⟨some 43, .mv (.t 6), none⟩, ⟨some 44, .mv (.t 8), none⟩, ⟨some 45, .idx 1 (.t 43) (.t 44), none⟩, ⟨some 46, .load false 1 (.t 45) (some 14), none⟩, ⟨some 47, .cvt .u64 (.t 46), none⟩, ⟨some 48, .call 59 [(.t 47)], none⟩, ⟨some 49, .call 33 [(.t 42), (.t 48)], none⟩, ⟨some 50, .part false 1 1 (.t 49), none⟩, ⟨some 51, .call 62 [(.t 39), (.t 50)], none⟩, ⟨some 7, .mv (.t 51), none⟩]))))
 (.region [⟨some 21, .mv (.t 8), none⟩, ⟨some 22, .bin .sub (.t 21) (.k (.int .i64 1)), none⟩, ⟨some 8, .mv (.t 22), none⟩])))
def epactref01_Div.c : SF := ⟨75, [.c 4 true 2, .c 5 true 2],
 (.seq (.region [⟨some 2, .box (.t 0), none⟩, ⟨some 3, .box (.t 1), none⟩, ⟨some 4, .alloc [.v (.bool false), .nil .i64], none⟩, ⟨some 5, .alloc [.v (.bool false), .nil .i64], none⟩])
 (.seq (.region [⟨some 11, .fld 1 (.t 2), none⟩, ⟨some 12, .load false 1 (.t 11) (some 2), none⟩, ⟨some 13, .len (.t 12), none⟩, ⟨some 14, .mkS ⟨3, 1, some .i64⟩ (.int .i64 0) (.t 13), none⟩, ⟨some 6, .mv (.t 14), none⟩])
 (.seq (.region [⟨some 7, .mv (.nil .i64), none⟩])
 (.seq (.seq (.region [⟨some 15, .fld 1 (.t 2), none⟩, ⟨some 16, .load false 1 (.t 15) (some 2), none⟩, ⟨some 17, .len (.t 16), none⟩, ⟨some 18, .bin .sub (.t 17) (.k (.int .i64 1)), none⟩, ⟨some 8, .mv (.t 18), none⟩])
 (.block 0
 (.loop epactref01_Div.l1)))
 (.seq (.region [⟨some 52, .mv (.t 6), none⟩, ⟨some 53, .callR 60 [(.t 52)], none⟩, ⟨some 54, .build [.v (.bool false), .nil .i64] [(1, 1, (.t 53))], none⟩, ⟨some 55, .mv (.t 7), none⟩, ⟨some 56, .build [.v (.bool false), .nil .i64] [(1, 1, (.t 55))], none⟩, ⟨some 9, .alloc [.v (.bool false), .nil .i64], none⟩, ⟨some 10, .alloc [.v (.bool false), .nil .i64], none⟩, ⟨none, .store 2 (.t 9) (.t 54) 9, none⟩, ⟨none, .store 2 (.t 10) (.t 56) 10, none⟩])
 (.seq (.seq (.region [⟨some 57, .fld 0 (.t 2), none⟩, ⟨some 58, .load false 1 (.t 57) (some 2), none⟩, ⟨some 59, .not (.t 58), none⟩])
 (.cond (.t 59)
 (.seq (.region [⟨some 60, .load true 2 (.t 9) (some 9), none⟩, ⟨some 61, .load true 2 (.t 10) (some 10), none⟩, ⟨none, .store 2 (.t 4) (.t 60) 4, none⟩, ⟨none, .store 2 (.t 5) (.t 61) 5, none⟩])
 .ret)
 .skip))
 (.seq (.region [⟨some 62, .load true 2 (.t 9) (some 9), none⟩, ⟨some 63, .call 63 [(.t 62)], none⟩, ⟨none, .store 2 (.t 9) (.t 63) 9, none⟩])
 (.seq (.seq (.region [⟨some 64, .mv (.t 7), none⟩, ⟨some 65, .len (.t 64), none⟩, ⟨some 66, .bin .eql (.t 65) (.k (.int .i64 0)), none⟩])
 (.cond (.t 66)
 (.seq (.region [⟨some 67, .load true 2 (.t 9) (some 9), none⟩, ⟨some 68, .load true 2 (.t 10) (some 10), none⟩, ⟨none, .store 2 (.t 4) (.t 67) 4, none⟩, ⟨none, .store 2 (.t 5) (.t 68) 5, none⟩])
 .ret)
 .skip))
 (.seq (.region [⟨some 69, .load true 2 (.t 9) (some 9), none⟩, ⟨some 70, .call 59 [(.k (.int .u64 1))], none⟩, ⟨some 71, .call 46 [(.t 69), (.t 70)], none⟩, ⟨some 72, .load true 2 (.t 3) (some 3), none⟩, ⟨some 73, .load true 2 (.t 10) (some 10), none⟩, ⟨some 74, .call 46 [(.t 72), (.t 73)], none⟩, ⟨none, .store 2 (.t 4) (.t 71) 4, none⟩, ⟨none, .store 2 (.t 5) (.t 74) 5, none⟩])
 .ret)))))))))⟩
theorem epactref01_Div.chk : chkFn Try.prog Try.f23 epactref01_Div.c = true := by kernel_rfl
theorem epactref01_Div.ent : ∀ args w, (callFunc 23 args).run Try.prog w = .ok (.enter 23 args) w := enters Try.func23 (by kernel_rfl) (by kernel_rfl)

/-- epact/epactref01.Int -/
def epactref01_Int.c : SF := ⟨18, [.c 2 true 2],
 (.seq (.region [⟨some 2, .alloc [.v (.bool false), .nil .i64], none⟩])
 (.seq (.seq (.region [⟨some 4, .mv (.t 0), none⟩, ⟨some 5, .bin .geq (.t 4) (.k (.int .i64 0)), none⟩])
 (.cond (.t 5)
 (.seq (.region [⟨some 6, .mv (.t 0), none⟩, ⟨some 7, .cvt .u64 (.t 6), none⟩, ⟨some 8, .call 59 [(.t 7)], none⟩, ⟨none, .store 2 (.t 2) (.t 8) 2, none⟩])
 .ret)
 .skip))
 (.seq (.region [⟨some 9, .mv (.t 0), none⟩, ⟨some 10, .bin .add (.t 9) (.k (.int .i64 1)), none⟩, ⟨some 11, .neg (.t 10), none⟩, ⟨some 12, .cvt .u64 (.t 11), none⟩, ⟨some 13, .call 59 [(.t 12)], none⟩, ⟨some 3, .alloc [.v (.bool false), .nil .i64], none⟩, ⟨none, .store 2 (.t 3) (.t 13) 3, none⟩])
 (.seq (.region [⟨some 14, .load true 2 (.t 3) (some 3), none⟩, ⟨some 15, .call 59 [(.k (.int .u64 1))], none⟩, ⟨some 16, .call 57 [(.t 14), (.t 15)], none⟩, ⟨some 17, .call 63 [(.t 16)], none⟩, ⟨none, .store 2 (.t 2) (.t 17) 2, none⟩])
 .ret))))⟩
theorem epactref01_Int.chk : chkFn Try.prog Try.f24 epactref01_Int.c = true := by kernel_rfl
theorem epactref01_Int.ent : ∀ args w, (callFunc 24 args).run Try.prog w = .ok (.enter 24 args) w := enters Try.func24 (by kernel_rfl) (by kernel_rfl)

/-- epact/epactref05.Small -/
def epactref05_Small.c : SF := ⟨25, [.t 2, .t 3],
 (.seq (.region [⟨some 1, .box (.t 0), none⟩, ⟨some 2, .mv (.k (.int .i64 0)), none⟩, ⟨some 3, .mv (.k (.bool false)), none⟩])
 (.seq (.region [⟨some 7, .load true 2 (.t 1) (some 1), none⟩, ⟨some 8, .call 64 [(.t 7)], none⟩, ⟨some 6, .mv (.t 8), none⟩, ⟨some 9, .ext (.t 6) 0, none⟩, ⟨some 10, .ext (.t 6) 1, none⟩, ⟨some 4, .alloc [.v (.int .i64 0), .v (.int .u64 0)], none⟩, ⟨none, .store 2 (.t 4) (.t 9) 4, none⟩, ⟨some 5, .mv (.t 10), none⟩])
 (.seq (.seq (.region [⟨some 11, .mv (.t 5), none⟩, ⟨some 12, .not (.t 11), none⟩, ⟨some 13, .mv (.t 12), none⟩, ⟨some 14, .load true 2 (.t 1) (some 1), some (13, false)⟩, ⟨some 15, .fld 1 (.t 4), some (13, false)⟩, ⟨some 16, .load false 1 (.t 15) (some 4), some (13, false)⟩, ⟨some 17, .cvt .i64 (.t 16), some (13, false)⟩, ⟨some 18, .call 24 [(.t 17)], some (13, false)⟩, ⟨some 19, .call 27 [(.t 14), (.t 18)], some (13, false)⟩, ⟨some 20, .not (.t 19), some (13, false)⟩, ⟨some 21, .pick (.t 13) (.k (.bool true)) (.t 20), none⟩])
 (.cond (.t 21)
 (.seq (.region [⟨some 2, .mv (.k (.int .i64 0)), none⟩, ⟨some 3, .mv (.k (.bool false)), none⟩])
 .ret)
 .skip))
 (.seq (.region [⟨some 22, .fld 1 (.t 4), none⟩, ⟨some 23, .load false 1 (.t 22) (some 4), none⟩, ⟨some 24, .cvt .i64 (.t 23), none⟩, ⟨some 2, .mv (.t 24), none⟩, ⟨some 3, .mv (.k (.bool true)), none⟩])
 .ret))))⟩
theorem epactref05_Small.chk : chkFn Try.prog Try.f25 epactref05_Small.c = true := by kernel_rfl
theorem epactref05_Small.ent : ∀ args w, (callFunc 25 args).run Try.prog w = .ok (.enter 25 args) w := enters Try.func25 (by kernel_rfl) (by kernel_rfl)

/-- epact/epactlaw21.answers -/
def epactlaw21_answers.c : SF := ⟨61, [.t 0],
 (.seq (.region [⟨some 0, .mv (.k (.bool false)), none⟩])
 (.seq (.region [⟨some 11, .call 55 [(.k (.int .i64 604801))], none⟩, ⟨some 12, .call 55 [(.k (.int .i64 1000000000000000000))], none⟩, ⟨some 13, .call 65 [(.t 11), (.t 12)], none⟩, ⟨some 10, .mv (.t 13), none⟩, ⟨some 14, .ext (.t 10) 0, none⟩, ⟨some 15, .ext (.t 10) 1, none⟩, ⟨some 1, .alloc [.v (.int .i64 0), .v (.int .u64 0)], none⟩, ⟨none, .store 2 (.t 1) (.t 14) 1, none⟩, ⟨some 2, .mv (.t 15), none⟩])
 (.seq (.region [⟨some 17, .load true 2 (.t 1) (some 1), none⟩, ⟨some 18, .call 20 [(.t 17)], none⟩, ⟨some 16, .mv (.t 18), none⟩, ⟨some 19, .ext (.t 16) 0, none⟩, ⟨some 20, .ext (.t 16) 1, none⟩, ⟨some 21, .ext (.t 16) 2, none⟩, ⟨some 3, .mv (.t 19), none⟩, ⟨some 4, .mv (.t 20), none⟩, ⟨some 5, .mv (.t 21), none⟩])
 (.seq (.region [⟨some 23, .load true 2 (.t 1) (some 1), none⟩, ⟨some 24, .call 28 [(.k (.int .i64 10)), (.t 23)], none⟩, ⟨some 22, .mv (.t 24), none⟩, ⟨some 25, .ext (.t 22) 0, none⟩, ⟨some 26, .ext (.t 22) 1, none⟩, ⟨some 6, .mv (.t 25), none⟩, ⟨some 7, .mv (.t 26), none⟩])
 (.seq (.region [⟨some 28, .mv (.t 6), none⟩, ⟨some 29, .load true 2 (.t 1) (some 1), none⟩, ⟨some 30, .call 31 [(.k (.int .i64 10)), (.t 28), (.t 29)], none⟩, ⟨some 27, .mv (.t 30), none⟩, ⟨some 31, .ext (.t 27) 0, none⟩, ⟨some 32, .ext (.t 27) 1, none⟩, ⟨some 8, .alloc [.v (.int .i64 0), .v (.int .u64 0)], none⟩, ⟨none, .store 2 (.t 8) (.t 31) 8, none⟩, ⟨some 9, .mv (.t 32), none⟩])
 (.seq (.region [⟨some 33, .mv (.t 3), none⟩, ⟨some 34, .bin .eql (.t 33) (.k (.int .i64 1)), none⟩, ⟨some 35, .mv (.t 34), none⟩, ⟨some 36, .mv (.t 4), some (35, true)⟩, ⟨some 37, .bin .eql (.t 36) (.k (.int .i64 1)), some (35, true)⟩, ⟨some 38, .pick (.t 35) (.t 37) (.k (.bool false)), none⟩, ⟨some 39, .mv (.t 38), none⟩, ⟨some 40, .mv (.t 5), some (39, true)⟩, ⟨some 41, .bin .eql (.t 40) (.k (.int .i64 0)), some (39, true)⟩, ⟨some 42, .pick (.t 39) (.t 41) (.k (.bool false)), none⟩, ⟨some 43, .mv (.t 42), none⟩, ⟨some 44, .mv (.t 7), some (43, true)⟩, ⟨some 45, .bin .eql (.t 44) (.k (.int .i64 0)), some (43, true)⟩, ⟨some 46, .pick (.t 43) (.t 45) (.k (.bool false)), none⟩, ⟨some 47, .mv (.t 46), none⟩, ⟨some 48, .mv (.t 6), some (47, true)⟩, ⟨some 49, .str (.t 48), some (47, true)⟩, ⟨some 50, .eqt false (.t 49) (.k (.string ⟨#[0, 1, 0, 0, 3, 232]⟩)), some (47, true)⟩, ⟨some 51, .pick (.t 47) (.t 50) (.k (.bool false)), none⟩, ⟨some 52, .mv (.t 51), none⟩, ⟨some 53, .mv (.t 9), some (52, true)⟩, ⟨some 54, .bin .eql (.t 53) (.k (.int .i64 0)), some (52, true)⟩, ⟨some 55, .pick (.t 52) (.t 54) (.k (.bool false)), none⟩, ⟨some 56, .mv (.t 55), none⟩, ⟨some 57, .load true 2 (.t 8) (some 8), some (56, true)⟩, ⟨some 58, .load true 2 (.t 1) (some 1), some (56, true)⟩, ⟨some 59, .eqs false [.i64, .u64] (.t 57) (.t 58), some (56, true)⟩, ⟨some 60, .pick (.t 56) (.t 59) (.k (.bool false)), none⟩, ⟨some 0, .mv (.t 60), none⟩])
 .ret))))))⟩
theorem epactlaw21_answers.chk : chkFn Try.prog Try.f26 epactlaw21_answers.c = true := by kernel_rfl
theorem epactlaw21_answers.ent : ∀ args w, (callFunc 26 args).run Try.prog w = .ok (.enter 26 args) w := enters Try.func26 (by kernel_rfl) (by kernel_rfl)

/-- epact/epactref01.Same -/
def epactref01_Same.c : SF := ⟨9, [.t 4],
 (.seq (.region [⟨some 2, .box (.t 0), none⟩, ⟨some 3, .box (.t 1), none⟩, ⟨some 4, .mv (.k (.bool false)), none⟩])
 (.seq (.region [⟨some 5, .load true 2 (.t 2) (some 2), none⟩, ⟨some 6, .load true 2 (.t 3) (some 3), none⟩, ⟨some 7, .call 48 [(.t 5), (.t 6)], none⟩, ⟨some 8, .bin .eql (.t 7) (.k (.int .i64 0)), none⟩, ⟨some 4, .mv (.t 8), none⟩])
 .ret))⟩
theorem epactref01_Same.chk : chkFn Try.prog Try.f27 epactref01_Same.c = true := by kernel_rfl
theorem epactref01_Same.ent : ∀ args w, (callFunc 27 args).run Try.prog w = .ok (.enter 27 args) w := enters Try.func27 (by kernel_rfl) (by kernel_rfl)

/-- epact/gps.Encode -/
def gps_Encode.c : SF := ⟨66, [.t 4, .t 5],
 (.seq (.region [⟨some 3, .box (.t 1), none⟩, ⟨some 4, .mv (.nil .u8), none⟩, ⟨some 5, .mv (.k (.int .i64 0)), none⟩])
 (.seq (.region [⟨some 18, .mv (.t 0), none⟩, ⟨some 19, .call 66 [(.t 18)], none⟩, ⟨some 17, .mv (.t 19), none⟩, ⟨some 20, .ext (.t 17) 0, none⟩, ⟨some 21, .ext (.t 17) 1, none⟩, ⟨some 6, .alloc [.v (.int .i64 0), .v (.int .i64 0), .v (.int .i64 0)], none⟩, ⟨none, .store 3 (.t 6) (.t 20) 6, none⟩, ⟨some 7, .mv (.t 21), none⟩])
 (.seq (.seq (.region [⟨some 22, .mv (.t 7), none⟩, ⟨some 23, .bin .neq (.t 22) (.k (.int .i64 0)), none⟩])
 (.cond (.t 23)
 (.seq (.region [⟨some 24, .mv (.t 7), none⟩, ⟨some 4, .mv (.nil .u8), none⟩, ⟨some 5, .mv (.t 24), none⟩])
 .ret)
 .skip))
 (.seq (.region [⟨some 26, .load true 2 (.t 3) (some 3), none⟩, ⟨some 27, .call 20 [(.t 26)], none⟩, ⟨some 25, .mv (.t 27), none⟩, ⟨some 28, .ext (.t 25) 0, none⟩, ⟨some 29, .ext (.t 25) 1, none⟩, ⟨some 30, .ext (.t 25) 2, none⟩, ⟨some 8, .mv (.t 28), none⟩, ⟨some 9, .mv (.t 29), none⟩, ⟨some 10, .mv (.t 30), none⟩])
 (.seq (.region [⟨some 32, .mv (.t 8), none⟩, ⟨some 33, .call 55 [(.t 32)], none⟩, ⟨some 34, .fld 0 (.t 6), none⟩, ⟨some 35, .load false 1 (.t 34) (some 6), none⟩, ⟨some 36, .call 55 [(.t 35)], none⟩, ⟨some 37, .call 67 [(.t 33), (.t 36)], none⟩, ⟨some 31, .mv (.t 37), none⟩, ⟨some 38, .ext (.t 31) 0, none⟩, ⟨some 39, .ext (.t 31) 1, none⟩, ⟨some 11, .alloc [.v (.int .i64 0), .v (.int .u64 0)], none⟩, ⟨none, .store 2 (.t 11) (.t 38) 11, none⟩, ⟨some 12, .mv (.t 39), none⟩])
 (.seq (.region [⟨some 41, .load true 2 (.t 11) (some 11), none⟩, ⟨some 42, .call 68 [(.t 41), (.k (.int .i64 2))], none⟩, ⟨some 40, .mv (.t 42), none⟩, ⟨some 43, .ext (.t 40) 0, none⟩, ⟨some 44, .ext (.t 40) 1, none⟩, ⟨some 13, .mv (.t 43), none⟩, ⟨some 14, .mv (.t 44), none⟩])
 (.seq (.region [⟨some 46, .mv (.t 9), none⟩, ⟨some 47, .fld 2 (.t 6), none⟩, ⟨some 48, .load false 1 (.t 47) (some 6), none⟩, ⟨some 49, .bin .quo (.k (.int .i64 1000000000000000000)) (.t 48), none⟩, ⟨some 50, .bin .mul (.t 46) (.t 49), none⟩, ⟨some 51, .mv (.t 10), none⟩, ⟨some 52, .fld 2 (.t 6), none⟩, ⟨some 53, .load false 1 (.t 52) (some 6), none⟩, ⟨some 54, .bin .quo (.t 51) (.t 53), none⟩, ⟨some 55, .bin .add (.t 50) (.t 54), none⟩, ⟨some 56, .call 55 [(.t 55)], none⟩, ⟨some 57, .fld 1 (.t 6), none⟩, ⟨some 58, .load false 1 (.t 57) (some 6), none⟩, ⟨some 59, .call 68 [(.t 56), (.t 58)], none⟩, ⟨some 45, .mv (.t 59), none⟩, ⟨some 60, .ext (.t 45) 0, none⟩, ⟨some 61, .ext (.t 45) 1, none⟩, ⟨some 15, .mv (.t 60), none⟩, ⟨some 16, .mv (.t 61), none⟩])
 (.seq (.region [⟨some 62, .mv (.t 13), none⟩, ⟨some 63, .mv (.t 15), none⟩, ⟨some 64, .bldS ⟨41, 1, none⟩ [.nil .u8, .nil .u8] 2 [(0, 1, (.t 62)), (1, 1, (.t 63))], none⟩, ⟨some 65, .callR 69 [(.t 64)], none⟩, ⟨some 4, .mv (.t 65), none⟩, ⟨some 5, .mv (.k (.int .i64 0)), none⟩])
 .ret))))))))⟩
theorem gps_Encode.chk : chkFn Try.prog Try.f28 gps_Encode.c = true := by kernel_rfl
theorem gps_Encode.ent : ∀ args w, (callFunc 28 args).run Try.prog w = .ok (.enter 28 args) w := enters Try.func28 (by kernel_rfl) (by kernel_rfl)

/-- epact/epactref19.Gps -/
def epactref19_Gps.c : SF := ⟨58, [.t 4, .t 5],
 (.seq (.region [⟨some 3, .box (.t 1), none⟩, ⟨some 4, .mv (.nil .u8), none⟩, ⟨some 5, .mv (.k (.int .i64 0)), none⟩])
 (.seq (.region [⟨some 14, .call 24 [(.k (.int .i64 604800))], none⟩, ⟨some 6, .alloc [.v (.bool false), .nil .i64], none⟩, ⟨none, .store 2 (.t 6) (.t 14) 6, none⟩])
 (.seq (.seq (.region [⟨some 15, .mv (.t 0), none⟩, ⟨some 16, .bin .neq (.t 15) (.k (.int .i64 10)), none⟩, ⟨some 17, .mv (.t 16), none⟩, ⟨some 18, .mv (.t 0), some (17, true)⟩, ⟨some 19, .bin .neq (.t 18) (.k (.int .i64 13)), some (17, true)⟩, ⟨some 20, .pick (.t 17) (.t 19) (.k (.bool false)), none⟩])
 (.cond (.t 20)
 (.seq (.region [⟨some 4, .mv (.nil .u8), none⟩, ⟨some 5, .mv (.k (.int .i64 1)), none⟩])
 .ret)
 .skip))
 (.seq (.region [⟨some 22, .load true 2 (.t 3) (some 3), none⟩, ⟨some 23, .call 21 [(.t 22)], none⟩, ⟨some 21, .mv (.t 23), none⟩, ⟨some 24, .ext (.t 21) 0, none⟩, ⟨some 25, .ext (.t 21) 1, none⟩, ⟨some 7, .alloc [.v (.bool false), .nil .i64], none⟩, ⟨none, .store 2 (.t 7) (.t 24) 7, none⟩, ⟨some 8, .mv (.t 25), none⟩])
 (.seq (.region [⟨some 27, .load true 2 (.t 7) (some 7), none⟩, ⟨some 28, .load true 2 (.t 6) (some 6), none⟩, ⟨some 29, .call 23 [(.t 27), (.t 28)], none⟩, ⟨some 26, .mv (.t 29), none⟩, ⟨some 30, .ext (.t 26) 0, none⟩, ⟨some 31, .ext (.t 26) 1, none⟩, ⟨some 9, .alloc [.v (.bool false), .nil .i64], none⟩, ⟨some 10, .alloc [.v (.bool false), .nil .i64], none⟩, ⟨none, .store 2 (.t 9) (.t 30) 9, none⟩, ⟨none, .store 2 (.t 10) (.t 31) 10, none⟩])
 (.seq (.region [⟨some 33, .load true 2 (.t 9) (some 9), none⟩, ⟨some 34, .mv (.t 0), none⟩, ⟨some 35, .call 58 [(.t 34)], none⟩, ⟨some 36, .call 23 [(.t 33), (.t 35)], none⟩, ⟨some 32, .mv (.t 36), none⟩, ⟨some 37, .ext (.t 32) 0, none⟩, ⟨some 38, .ext (.t 32) 1, none⟩, ⟨none, .store 2 (.t 9) (.t 38) 9, none⟩])
 (.seq (.region [⟨some 39, .load true 2 (.t 10) (some 10), none⟩, ⟨some 40, .call 24 [(.k (.int .i64 1000))], none⟩, ⟨some 41, .call 33 [(.t 39), (.t 40)], none⟩, ⟨some 11, .alloc [.v (.bool false), .nil .i64], none⟩, ⟨none, .store 2 (.t 11) (.t 41) 11, none⟩, ⟨some 12, .mv (.k (.int .i64 1000000000000000)), none⟩, ⟨some 13, .mv (.k (.int .i64 4)), none⟩])
 (.seq (.seq (.region [⟨some 42, .mv (.t 0), none⟩, ⟨some 43, .bin .eql (.t 42) (.k (.int .i64 13)), none⟩])
 (.cond (.t 43)
 (.region [⟨some 44, .load true 2 (.t 10) (some 10), none⟩, ⟨some 45, .call 24 [(.k (.int .i64 1000000000))], none⟩, ⟨some 46, .call 33 [(.t 44), (.t 45)], none⟩, ⟨none, .store 2 (.t 11) (.t 46) 11, none⟩, ⟨some 12, .mv (.k (.int .i64 1000000000)), none⟩, ⟨some 13, .mv (.k (.int .i64 8)), none⟩])
 .skip))
 (.seq (.region [⟨some 47, .load true 2 (.t 9) (some 9), none⟩, ⟨some 48, .call 71 [(.t 47), (.k (.int .i64 2))], none⟩, ⟨some 49, .load true 2 (.t 11) (some 11), none⟩, ⟨some 50, .mv (.t 8), none⟩, ⟨some 51, .mv (.t 12), none⟩, ⟨some 52, .bin .quo (.t 50) (.t 51), none⟩, ⟨some 53, .call 24 [(.t 52)], none⟩, ⟨some 54, .call 57 [(.t 49), (.t 53)], none⟩, ⟨some 55, .mv (.t 13), none⟩, ⟨some 56, .call 71 [(.t 54), (.t 55)], none⟩, ⟨some 57, .call 70 [(.t 48), (.t 56)], none⟩, ⟨some 4, .mv (.t 57), none⟩, ⟨some 5, .mv (.k (.int .i64 0)), none⟩])
 .ret)))))))))⟩
theorem epactref19_Gps.chk : chkFn Try.prog Try.f29 epactref19_Gps.c = true := by kernel_rfl
theorem epactref19_Gps.ent : ∀ args w, (callFunc 29 args).run Try.prog w = .ok (.enter 29 args) w := enters Try.func29 (by kernel_rfl) (by kernel_rfl)

/-- epact/epactref19.Same -/
def epactref19_Same.c : SF := ⟨10, [.t 4],
 (.seq (.region [⟨some 4, .mv (.k (.bool false)), none⟩])
 (.seq (.region [⟨some 5, .mv (.t 0), none⟩, ⟨some 6, .str (.t 5), none⟩, ⟨some 7, .mv (.t 1), none⟩, ⟨some 8, .str (.t 7), none⟩, ⟨some 9, .eqt false (.t 6) (.t 8), none⟩, ⟨some 4, .mv (.t 9), none⟩])
 .ret))⟩
theorem epactref19_Same.chk : chkFn Try.prog Try.f30 epactref19_Same.c = true := by kernel_rfl
theorem epactref19_Same.ent : ∀ args w, (callFunc 30 args).run Try.prog w = .ok (.enter 30 args) w := enters Try.func30 (by kernel_rfl) (by kernel_rfl)

/-- epact/gps.Decode -/
def gps_Decode.c : SF := ⟨96, [.c 6 true 2, .t 7],
 (.seq (.region [⟨some 5, .box (.t 2), none⟩, ⟨some 6, .alloc [.v (.int .i64 0), .v (.int .u64 0)], none⟩, ⟨some 7, .mv (.k (.int .i64 0)), none⟩])
 (.seq (.region [⟨some 20, .mv (.t 0), none⟩, ⟨some 21, .call 66 [(.t 20)], none⟩, ⟨some 19, .mv (.t 21), none⟩, ⟨some 22, .ext (.t 19) 0, none⟩, ⟨some 23, .ext (.t 19) 1, none⟩, ⟨some 8, .alloc [.v (.int .i64 0), .v (.int .i64 0), .v (.int .i64 0)], none⟩, ⟨none, .store 3 (.t 8) (.t 22) 8, none⟩, ⟨some 9, .mv (.t 23), none⟩])
 (.seq (.block 0
 (.seq (.region [⟨some 25, .mv (.t 9), none⟩, ⟨some 26, .bin .neq (.t 25) (.k (.int .i64 0)), none⟩, ⟨some 24, .mv (.t 26), none⟩])
 (.cond (.t 24)
 (.seq (.region [⟨some 27, .build [.v (.int .i64 0), .v (.int .u64 0)] [], none⟩, ⟨some 28, .mv (.t 9), none⟩, ⟨none, .store 2 (.t 6) (.t 27) 6, none⟩, ⟨some 7, .mv (.t 28), none⟩])
 .ret)
 (.seq (.region [⟨some 30, .mv (.t 1), none⟩, ⟨some 31, .len (.t 30), none⟩, ⟨some 32, .fld 1 (.t 8), none⟩, ⟨some 33, .load false 1 (.t 32) (some 8), none⟩, ⟨some 34, .bin .add (.k (.int .i64 2)) (.t 33), none⟩, ⟨some 35, .bin .neq (.t 31) (.t 34), none⟩, ⟨some 29, .mv (.t 35), none⟩])
 (.cond (.t 29)
 (.seq (.region [⟨some 36, .build [.v (.int .i64 0), .v (.int .u64 0)] [], none⟩, ⟨none, .store 2 (.t 6) (.t 36) 6, none⟩, ⟨some 7, .mv (.k (.int .i64 4)), none⟩])
 .ret)
 .skip)))))
 (.seq (.region [⟨some 38, .mv (.t 1), none⟩, ⟨some 39, .sl (.t 38) none (some (.k (.int .i64 2))), none⟩, ⟨some 40, .call 72 [(.t 39)], none⟩, ⟨some 37, .mv (.t 40), none⟩, ⟨some 41, .ext (.t 37) 0, none⟩, ⟨some 42, .ext (.t 37) 1, none⟩, ⟨some 10, .alloc [.v (.int .i64 0), .v (.int .u64 0)], none⟩, ⟨none, .store 2 (.t 10) (.t 41) 10, none⟩, ⟨some 11, .mv (.t 42), none⟩])
 (.seq (.region [⟨some 44, .mv (.t 1), none⟩, ⟨some 45, .sl (.t 44) (some (.k (.int .i64 2))) none, none⟩, ⟨some 46, .call 72 [(.t 45)], none⟩, ⟨some 43, .mv (.t 46), none⟩, ⟨some 47, .ext (.t 43) 0, none⟩, ⟨some 48, .ext (.t 43) 1, none⟩, ⟨some 12, .alloc [.v (.int .i64 0), .v (.int .u64 0)], none⟩, ⟨none, .store 2 (.t 12) (.t 47) 12, none⟩, ⟨some 13, .mv (.t 48), none⟩])
 (.seq (.region [⟨some 50, .load true 2 (.t 10) (some 10), none⟩, ⟨some 51, .call 56 [(.t 50)], none⟩, ⟨some 49, .mv (.t 51), none⟩, ⟨some 52, .ext (.t 49) 0, none⟩, ⟨some 53, .ext (.t 49) 1, none⟩, ⟨some 14, .mv (.t 52), none⟩, ⟨some 15, .mv (.t 53), none⟩])
 (.seq (.region [⟨some 55, .load true 2 (.t 12) (some 12), none⟩, ⟨some 56, .call 56 [(.t 55)], none⟩, ⟨some 54, .mv (.t 56), none⟩, ⟨some 57, .ext (.t 54) 0, none⟩, ⟨some 58, .ext (.t 54) 1, none⟩, ⟨some 16, .mv (.t 57), none⟩, ⟨some 9, .mv (.t 58), none⟩])
 (.seq (.seq (.region [⟨some 59, .mv (.t 9), none⟩, ⟨some 60, .bin .neq (.t 59) (.k (.int .i64 0)), none⟩, ⟨some 61, .mv (.t 60), none⟩, ⟨some 62, .mv (.t 14), some (61, false)⟩, ⟨some 63, .fld 0 (.t 8), some (61, false)⟩, ⟨some 64, .load false 1 (.t 63) (some 8), some (61, false)⟩, ⟨some 65, .bin .geq (.t 62) (.t 64), some (61, false)⟩, ⟨some 66, .pick (.t 61) (.k (.bool true)) (.t 65), none⟩, ⟨some 67, .mv (.t 66), none⟩, ⟨some 68, .mv (.t 16), some (67, false)⟩, ⟨some 69, .fld 2 (.t 8), some (67, false)⟩, ⟨some 70, .load false 1 (.t 69) (some 8), some (67, false)⟩, ⟨some 71, .bin .quo (.k (.int .i64 1000000000000000000)) (.t 70), some (67, false)⟩, ⟨some 72, .bin .mul (.k (.int .i64 604800)) (.t 71), some (67, false)⟩, ⟨some 73, .bin .geq (.t 68) (.t 72), some (67, false)⟩, ⟨some 74, .pick (.t 67) (.k (.bool true)) (.t 73), none⟩])
 (.cond (.t 74)
 (.seq (.region [⟨some 75, .build [.v (.int .i64 0), .v (.int .u64 0)] [], none⟩, ⟨none, .store 2 (.t 6) (.t 75) 6, none⟩, ⟨some 7, .mv (.k (.int .i64 4)), none⟩])
 .ret)
 .skip))
 (.seq (.region [⟨some 77, .mv (.t 14), none⟩, ⟨some 78, .bin .mul (.t 77) (.k (.int .i64 604800)), none⟩, ⟨some 79, .call 74 [(.t 78), (.k (.int .i64 1000000000000000000))], none⟩, ⟨some 80, .mv (.t 16), none⟩, ⟨some 81, .fld 2 (.t 8), none⟩, ⟨some 82, .load false 1 (.t 81) (some 8), none⟩, ⟨some 83, .call 74 [(.t 80), (.t 82)], none⟩, ⟨some 84, .call 73 [(.t 79), (.t 83)], none⟩, ⟨some 76, .mv (.t 84), none⟩, ⟨some 85, .ext (.t 76) 0, none⟩, ⟨some 86, .ext (.t 76) 1, none⟩, ⟨some 17, .alloc [.v (.int .i64 0), .v (.int .u64 0)], none⟩, ⟨none, .store 2 (.t 17) (.t 85) 17, none⟩, ⟨some 18, .mv (.t 86), none⟩])
 (.seq (.region [⟨some 87, .load true 2 (.t 17) (some 17), none⟩, ⟨some 88, .fld 0 (.t 8), none⟩, ⟨some 89, .load false 1 (.t 88) (some 8), none⟩, ⟨some 90, .bin .mul (.t 89) (.k (.int .i64 604800)), none⟩, ⟨some 91, .call 74 [(.t 90), (.k (.int .i64 1000000000000000000))], none⟩, ⟨some 92, .load true 2 (.t 5) (some 5), none⟩, ⟨some 93, .call 75 [(.t 87), (.t 91), (.t 92)], none⟩, ⟨some 94, .ext (.t 93) 0, none⟩, ⟨some 95, .ext (.t 93) 1, none⟩, ⟨none, .store 2 (.t 6) (.t 94) 6, none⟩, ⟨some 7, .mv (.t 95), none⟩])
 .ret))))))))))⟩
theorem gps_Decode.chk : chkFn Try.prog Try.f31 gps_Decode.c = true := by kernel_rfl
theorem gps_Decode.ent : ∀ args w, (callFunc 31 args).run Try.prog w = .ok (.enter 31 args) w := enters Try.func31 (by kernel_rfl) (by kernel_rfl)

/-- epact/epactref19.FromGps -/
def epactref19_FromGps.c : SF := ⟨64, [.c 6 true 2, .t 7],
 (.seq (.region [⟨some 5, .box (.t 2), none⟩, ⟨some 6, .alloc [.v (.int .i64 0), .v (.int .u64 0)], none⟩, ⟨some 7, .mv (.k (.int .i64 0)), none⟩])
 (.seq (.seq (.region [⟨some 13, .mv (.t 0), none⟩, ⟨some 14, .bin .neq (.t 13) (.k (.int .i64 10)), none⟩, ⟨some 15, .mv (.t 14), none⟩, ⟨some 16, .mv (.t 0), some (15, true)⟩, ⟨some 17, .bin .neq (.t 16) (.k (.int .i64 13)), some (15, true)⟩, ⟨some 18, .pick (.t 15) (.t 17) (.k (.bool false)), none⟩])
 (.cond (.t 18)
 (.seq (.region [⟨some 19, .build [.v (.int .i64 0), .v (.int .u64 0)] [], none⟩, ⟨none, .store 2 (.t 6) (.t 19) 6, none⟩, ⟨some 7, .mv (.k (.int .i64 1)), none⟩])
 .ret)
 .skip))
 (.seq (.region [⟨some 8, .mv (.k (.int .i64 6)), none⟩, ⟨some 9, .mv (.k (.int .i64 1000000000000000)), none⟩])
 (.seq (.seq (.region [⟨some 20, .mv (.t 0), none⟩, ⟨some 21, .bin .eql (.t 20) (.k (.int .i64 13)), none⟩])
 (.cond (.t 21)
 (.region [⟨some 8, .mv (.k (.int .i64 10)), none⟩, ⟨some 9, .mv (.k (.int .i64 1000000000)), none⟩])
 .skip))
 (.seq (.seq (.region [⟨some 22, .mv (.t 1), none⟩, ⟨some 23, .len (.t 22), none⟩, ⟨some 24, .mv (.t 8), none⟩, ⟨some 25, .bin .neq (.t 23) (.t 24), none⟩])
 (.cond (.t 25)
 (.seq (.region [⟨some 26, .build [.v (.int .i64 0), .v (.int .u64 0)] [], none⟩, ⟨none, .store 2 (.t 6) (.t 26) 6, none⟩, ⟨some 7, .mv (.k (.int .i64 4)), none⟩])
 .ret)
 .skip))
 (.seq (.region [⟨some 27, .call 24 [(.k (.int .i64 604800))], none⟩, ⟨some 28, .call 24 [(.k (.int .i64 1000000000000000000))], none⟩, ⟨some 29, .call 33 [(.t 27), (.t 28)], none⟩, ⟨some 10, .alloc [.v (.bool false), .nil .i64], none⟩, ⟨none, .store 2 (.t 10) (.t 29) 10, none⟩])
 (.seq (.region [⟨some 30, .mv (.t 1), none⟩, ⟨some 31, .sl (.t 30) none (some (.k (.int .i64 2))), none⟩, ⟨some 32, .call 76 [(.t 31)], none⟩, ⟨some 33, .mv (.t 1), none⟩, ⟨some 34, .sl (.t 33) (some (.k (.int .i64 2))) none, none⟩, ⟨some 35, .call 76 [(.t 34)], none⟩, ⟨some 36, .mv (.t 9), none⟩, ⟨some 37, .call 24 [(.t 36)], none⟩, ⟨some 38, .call 33 [(.t 35), (.t 37)], none⟩, ⟨some 11, .alloc [.v (.bool false), .nil .i64], none⟩, ⟨some 12, .alloc [.v (.bool false), .nil .i64], none⟩, ⟨none, .store 2 (.t 11) (.t 32) 11, none⟩, ⟨none, .store 2 (.t 12) (.t 38) 12, none⟩])
 (.seq (.seq (.region [⟨some 39, .load true 2 (.t 11) (some 11), none⟩, ⟨some 40, .mv (.t 0), none⟩, ⟨some 41, .call 58 [(.t 40)], none⟩, ⟨some 42, .call 48 [(.t 39), (.t 41)], none⟩, ⟨some 43, .bin .geq (.t 42) (.k (.int .i64 0)), none⟩, ⟨some 44, .mv (.t 43), none⟩, ⟨some 45, .load true 2 (.t 12) (some 12), some (44, false)⟩, ⟨some 46, .load true 2 (.t 10) (some 10), some (44, false)⟩, ⟨some 47, .call 48 [(.t 45), (.t 46)], some (44, false)⟩, ⟨some 48, .bin .geq (.t 47) (.k (.int .i64 0)), some (44, false)⟩, ⟨some 49, .pick (.t 44) (.k (.bool true)) (.t 48), none⟩])
 (.cond (.t 49)
 (.seq (.region [⟨some 50, .build [.v (.int .i64 0), .v (.int .u64 0)] [], none⟩, ⟨none, .store 2 (.t 6) (.t 50) 6, none⟩, ⟨some 7, .mv (.k (.int .i64 4)), none⟩])
 .ret)
 .skip))
 (.seq (.region [⟨some 51, .load true 2 (.t 11) (some 11), none⟩, ⟨some 52, .load true 2 (.t 10) (some 10), none⟩, ⟨some 53, .call 33 [(.t 51), (.t 52)], none⟩, ⟨some 54, .load true 2 (.t 12) (some 12), none⟩, ⟨some 55, .call 57 [(.t 53), (.t 54)], none⟩, ⟨some 56, .load true 2 (.t 10) (some 10), none⟩, ⟨some 57, .mv (.t 0), none⟩, ⟨some 58, .call 58 [(.t 57)], none⟩, ⟨some 59, .call 33 [(.t 56), (.t 58)], none⟩, ⟨some 60, .load true 2 (.t 5) (some 5), none⟩, ⟨some 61, .call 77 [(.t 55), (.t 59), (.t 60)], none⟩, ⟨some 62, .ext (.t 61) 0, none⟩, ⟨some 63, .ext (.t 61) 1, none⟩, ⟨none, .store 2 (.t 6) (.t 62) 6, none⟩, ⟨some 7, .mv (.t 63), none⟩])
 .ret)))))))))⟩
theorem epactref19_FromGps.chk : chkFn Try.prog Try.f32 epactref19_FromGps.c = true := by kernel_rfl
theorem epactref19_FromGps.ent : ∀ args w, (callFunc 32 args).run Try.prog w = .ok (.enter 32 args) w := enters Try.func32 (by kernel_rfl) (by kernel_rfl)

/-- epact/epactref01.Mul -/
def epactref01_Mul.l1 : SC :=
 (.seq (.seq (.region [⟨some 25, .mv (.t 8), none⟩, ⟨some 26, .fld 1 (.t 3), none⟩, ⟨some 27, .load false 1 (.t 26) (some 3), none⟩, ⟨some 28, .len (.t 27), none⟩, ⟨some 29, .bin .lss (.t 25) (.t 28), none⟩])
 (.cond (.t 29)
 .skip
 (.exit 2)))
 (.seq (.block 3
 (.seq (.region [⟨some 32, .mv (.t 5), none⟩, ⟨some 33, .mv (.t 6), none⟩, ⟨some 34, .mv (.t 8), none⟩, ⟨some 35, .bin .add (.t 33) (.t 34), none⟩, ⟨some 36, .idx 1 (.t 32) (.t 35), none⟩, ⟨some 37, .load false 1 (.t 36) (some 17), none⟩, ⟨some 38, .fld 1 (.t 2), none⟩, ⟨some 39, .load false 1 (.t 38) (some 2), none⟩, ⟨some 40, .mv (.t 6), none⟩, ⟨some 41, .idx 1 (.t 39) (.t 40), none⟩, ⟨some 42, .load false 1 (.t 41) none, none⟩, ⟨some 43, .fld 1 (.t 3), none⟩, ⟨some 44, .load false 1 (.t 43) (some 3), none⟩, ⟨some 45, .mv (.t 8), none⟩, ⟨some 46, .idx 1 (.t 44) (.t 45), none⟩, ⟨some 47, .load false 1 (.t 46) none, none⟩, ⟨some 48, .bin .mul (.t 42) (.t 47), none⟩, ⟨some 49, .bin .add (.t 37) (.t 48), none⟩, ⟨some 50, .mv (.t 7), none⟩, ⟨some 51, .bin .add (.t 49) (.t 50), none⟩, ⟨some 9, .mv (.t 51), none⟩])
 (.seq (.region [⟨some 52, .mv (.t 5), none⟩, ⟨some 53, .mv (.t 6), none⟩, ⟨some 54, .mv (.t 8), none⟩, ⟨some 55, .bin .add (.t 53) (.t 54), none⟩, ⟨some 56, .mv (.t 9), none⟩, ⟨some 57, .bin .rem (.t 56) (.k (.int .i64 65536)), none⟩, ⟨some 58, .idx 1 (.t 52) (.t 55), none⟩, ⟨none, .store 1 (.t 58) (.t 57) 17, none⟩])
 (.region [⟨some 59, .mv (.t 9), none⟩, ⟨some 60, .bin .quo (.t 59) (.k (.int .i64 65536)), none⟩, ⟨some 7, .mv (.t 60), none⟩]))))
 (.region [⟨some 30, .mv (.t 8), none⟩, ⟨some 31, .bin .add (.t 30) (.k (.int .i64 1)), none⟩, ⟨some 8, .mv (.t 31), none⟩])))
def epactref01_Mul.l2 : SC :=
 (.seq (.seq (.region [⟨some 18, .mv (.t 6), none⟩, ⟨some 19, .fld 1 (.t 2), none⟩, ⟨some 20, .load false 1 (.t 19) (some 2), none⟩, ⟨some 21, .len (.t 20), none⟩, ⟨some 22, .bin .lss (.t 18) (.t 21), none⟩])
 (.cond (.t 22)
 .skip
 (.exit 0)))
 (.seq (.block 1
 (.seq (.region [⟨some 7, .mv (.k (.int .i64 0)), none⟩])
 (.seq (.seq (.region [⟨some 8, .mv (.k (.int .i64 0)), none⟩])
 (.block 2
 (.loop epactref01_Mul.l1)))
 (.region [⟨some 61, .mv (.t 5), none⟩, ⟨some 62, .mv (.t 6), none⟩, ⟨some 63, .fld 1 (.t 3), none⟩, ⟨some 64, .load false 1 (.t 63) (some 3), none⟩, ⟨some 65, .len (.t 64), none⟩, ⟨some 66, .bin .add (.t 62) (.t 65), none⟩, ⟨some 67, .mv (.t 7), none⟩, ⟨some 68, .idx 1 (.t 61) (.t 66), none⟩, ⟨none, .store 1 (.t 68) (.t 67) 17, none⟩]))))
 (.region [⟨some 23, .mv (.t 6), none⟩, ⟨some 24, .bin .add (.t 23) (.k (.int .i64 1)), none⟩, ⟨some 6, .mv (.t 24), none⟩])))
def epactref01_Mul.c : SF := ⟨83, [.c 4 true 2],
 (.seq (.region [⟨some 2, .box (.t 0), none⟩, ⟨some 3, .box (.t 1), none⟩, ⟨some 4, .alloc [.v (.bool false), .nil .i64], none⟩])
 (.seq (.region [⟨some 10, .fld 1 (.t 2), none⟩, ⟨some 11, .load false 1 (.t 10) (some 2), none⟩, ⟨some 12, .len (.t 11), none⟩, ⟨some 13, .fld 1 (.t 3), none⟩, ⟨some 14, .load false 1 (.t 13) (some 3), none⟩, ⟨some 15, .len (.t 14), none⟩, ⟨some 16, .bin .add (.t 12) (.t 15), none⟩, ⟨some 17, .mkS ⟨3, 1, some .i64⟩ (.int .i64 0) (.t 16), none⟩, ⟨some 5, .mv (.t 17), none⟩])
 (.seq (.seq (.region [⟨some 6, .mv (.k (.int .i64 0)), none⟩])
 (.block 0
 (.loop epactref01_Mul.l2)))
 (.seq (.region [⟨some 69, .mv (.t 5), none⟩, ⟨some 70, .callR 60 [(.t 69)], none⟩, ⟨some 5, .mv (.t 70), none⟩])
 (.seq (.region [⟨some 71, .fld 0 (.t 2), none⟩, ⟨some 72, .load false 1 (.t 71) (some 2), none⟩, ⟨some 73, .fld 0 (.t 3), none⟩, ⟨some 74, .load false 1 (.t 73) (some 3), none⟩, ⟨some 75, .eqb true (.t 72) (.t 74), none⟩, ⟨some 76, .mv (.t 75), none⟩, ⟨some 77, .mv (.t 5), some (76, true)⟩, ⟨some 78, .len (.t 77), some (76, true)⟩, ⟨some 79, .bin .gtr (.t 78) (.k (.int .i64 0)), some (76, true)⟩, ⟨some 80, .pick (.t 76) (.t 79) (.k (.bool false)), none⟩, ⟨some 81, .mv (.t 5), none⟩, ⟨some 82, .build [.v (.bool false), .nil .i64] [(0, 1, (.t 80)), (1, 1, (.t 81))], none⟩, ⟨none, .store 2 (.t 4) (.t 82) 4, none⟩])
 .ret)))))⟩
theorem epactref01_Mul.chk : chkFn Try.prog Try.f33 epactref01_Mul.c = true := by kernel_rfl
theorem epactref01_Mul.ent : ∀ args w, (callFunc 33 args).run Try.prog w = .ok (.enter 33 args) w := enters Try.func33 (by kernel_rfl) (by kernel_rfl)

/-- epact/cds.Encode -/
def cds_Encode.c : SF := ⟨88, [.t 6, .t 7],
 (.seq (.region [⟨some 3, .box (.t 0), none⟩, ⟨some 6, .mv (.nil .u8), none⟩, ⟨some 7, .mv (.k (.int .i64 0)), none⟩])
 (.seq (.block 0
 (.seq (.region [⟨some 13, .mv (.t 1), none⟩, ⟨some 14, .bin .neq (.t 13) (.k (.int .i64 2)), none⟩, ⟨some 15, .mv (.t 14), none⟩, ⟨some 16, .mv (.t 1), some (15, true)⟩, ⟨some 17, .bin .neq (.t 16) (.k (.int .i64 3)), some (15, true)⟩, ⟨some 18, .pick (.t 15) (.t 17) (.k (.bool false)), none⟩, ⟨some 19, .mv (.t 18), none⟩, ⟨some 20, .mv (.t 2), some (19, false)⟩, ⟨some 21, .call 78 [(.t 20)], some (19, false)⟩, ⟨some 22, .bin .eql (.t 21) (.k (.int .i64 0)), some (19, false)⟩, ⟨some 23, .pick (.t 19) (.k (.bool true)) (.t 22), none⟩, ⟨some 24, .mv (.t 23), none⟩, ⟨some 25, .fld 1 (.t 3), some (24, false)⟩, ⟨some 26, .load false 1 (.t 25) (some 3), some (24, false)⟩, ⟨some 27, .bin .lss (.t 26) (.k (.int .i64 0)), some (24, false)⟩, ⟨some 28, .pick (.t 24) (.k (.bool true)) (.t 27), none⟩, ⟨some 29, .mv (.t 28), none⟩, ⟨some 30, .fld 1 (.t 3), some (29, false)⟩, ⟨some 31, .load false 1 (.t 30) (some 3), some (29, false)⟩, ⟨some 32, .bin .gtr (.t 31) (.k (.int .i64 86400)), some (29, false)⟩, ⟨some 33, .pick (.t 29) (.k (.bool true)) (.t 32), none⟩, ⟨some 34, .mv (.t 33), none⟩, ⟨some 35, .fld 2 (.t 3), some (34, false)⟩, ⟨some 36, .load false 1 (.t 35) (some 3), some (34, false)⟩, ⟨some 37, .bin .lss (.t 36) (.k (.int .i64 0)), some (34, false)⟩, ⟨some 38, .pick (.t 34) (.k (.bool true)) (.t 37), none⟩, ⟨some 39, .mv (.t 38), none⟩, ⟨some 40, .fld 2 (.t 3), some (39, false)⟩, ⟨some 41, .load false 1 (.t 40) (some 3), some (39, false)⟩, ⟨some 42, .bin .geq (.t 41) (.k (.int .i64 1000000000000000000)), some (39, false)⟩, ⟨some 43, .pick (.t 39) (.k (.bool true)) (.t 42), none⟩, ⟨some 12, .mv (.t 43), none⟩])
 (.cond (.t 12)
 (.seq (.region [⟨some 6, .mv (.nil .u8), none⟩, ⟨some 7, .mv (.k (.int .i64 1)), none⟩])
 .ret)
 (.seq (.region [⟨some 45, .fld 0 (.t 3), none⟩, ⟨some 46, .load false 1 (.t 45) (some 3), none⟩, ⟨some 47, .call 79 [(.t 46)], none⟩, ⟨some 48, .not (.t 47), none⟩, ⟨some 44, .mv (.t 48), none⟩])
 (.cond (.t 44)
 (.seq (.region [⟨some 6, .mv (.nil .u8), none⟩, ⟨some 7, .mv (.k (.int .i64 2)), none⟩])
 .ret)
 .skip)))))
 (.seq (.region [⟨some 50, .fld 0 (.t 3), none⟩, ⟨some 51, .load false 1 (.t 50) (some 3), none⟩, ⟨some 52, .bin .sub (.t 51) (.k (.int .i64 36204)), none⟩, ⟨some 53, .call 55 [(.t 52)], none⟩, ⟨some 54, .mv (.t 1), none⟩, ⟨some 55, .call 80 [(.t 54)], none⟩, ⟨some 56, .call 67 [(.t 53), (.t 55)], none⟩, ⟨some 49, .mv (.t 56), none⟩, ⟨some 57, .ext (.t 49) 0, none⟩, ⟨some 58, .ext (.t 49) 1, none⟩, ⟨some 8, .alloc [.v (.int .i64 0), .v (.int .u64 0)], none⟩, ⟨none, .store 2 (.t 8) (.t 57) 8, none⟩, ⟨some 9, .mv (.t 58), none⟩])
 (.seq (.region [⟨some 60, .load true 2 (.t 8) (some 8), none⟩, ⟨some 61, .mv (.t 1), none⟩, ⟨some 62, .call 68 [(.t 60), (.t 61)], none⟩, ⟨some 59, .mv (.t 62), none⟩, ⟨some 63, .ext (.t 59) 0, none⟩, ⟨some 64, .ext (.t 59) 1, none⟩, ⟨some 10, .mv (.t 63), none⟩, ⟨some 11, .mv (.t 64), none⟩])
 (.seq (.region [⟨some 65, .mv (.t 1), none⟩, ⟨some 66, .mv (.t 2), none⟩, ⟨some 67, .call 81 [(.t 65), (.t 66)], none⟩, ⟨some 68, .bldS ⟨5, 1, some .u8⟩ [.v (.int .u8 0)] 1 [(0, 1, (.t 67))], none⟩, ⟨some 69, .mv (.t 10), none⟩, ⟨some 70, .fld 1 (.t 3), none⟩, ⟨some 71, .load false 1 (.t 70) (some 3), none⟩, ⟨some 72, .bin .mul (.t 71) (.k (.int .i64 1000)), none⟩, ⟨some 73, .fld 2 (.t 3), none⟩, ⟨some 74, .load false 1 (.t 73) (some 3), none⟩, ⟨some 75, .bin .quo (.t 74) (.k (.int .i64 1000000000000000)), none⟩, ⟨some 76, .bin .add (.t 72) (.t 75), none⟩, ⟨some 77, .call 82 [(.t 76), (.k (.int .i64 4))], none⟩, ⟨some 78, .fld 2 (.t 3), none⟩, ⟨some 79, .load false 1 (.t 78) (some 3), none⟩, ⟨some 80, .bin .rem (.t 79) (.k (.int .i64 1000000000000000)), none⟩, ⟨some 81, .mv (.t 2), none⟩, ⟨some 82, .call 78 [(.t 81)], none⟩, ⟨some 83, .bin .quo (.t 80) (.t 82), none⟩, ⟨some 84, .mv (.t 2), none⟩, ⟨some 85, .call 82 [(.t 83), (.t 84)], none⟩, ⟨some 86, .bldS ⟨41, 1, none⟩ [.nil .u8, .nil .u8, .nil .u8, .nil .u8] 4 [(0, 1, (.t 68)), (1, 1, (.t 69)), (2, 1, (.t 77)), (3, 1, (.t 85))], none⟩, ⟨some 87, .callR 69 [(.t 86)], none⟩, ⟨some 6, .mv (.t 87), none⟩, ⟨some 7, .mv (.k (.int .i64 0)), none⟩])
 .ret)))))⟩
theorem cds_Encode.chk : chkFn Try.prog Try.f34 cds_Encode.c = true := by kernel_rfl
theorem cds_Encode.ent : ∀ args w, (callFunc 34 args).run Try.prog w = .ok (.enter 34 args) w := enters Try.func34 (by kernel_rfl) (by kernel_rfl)

/-- epact/epactref19.Cds -/
def epactref19_Cds.c : SF := ⟨87, [.t 6, .t 7],
 (.seq (.region [⟨some 3, .box (.t 0), none⟩, ⟨some 6, .mv (.nil .u8), none⟩, ⟨some 7, .mv (.k (.int .i64 0)), none⟩])
 (.seq (.seq (.region [⟨some 12, .mv (.t 1), none⟩, ⟨some 13, .bin .neq (.t 12) (.k (.int .i64 2)), none⟩, ⟨some 14, .mv (.t 13), none⟩, ⟨some 15, .mv (.t 1), some (14, true)⟩, ⟨some 16, .bin .neq (.t 15) (.k (.int .i64 3)), some (14, true)⟩, ⟨some 17, .pick (.t 14) (.t 16) (.k (.bool false)), none⟩, ⟨some 18, .mv (.t 17), none⟩, ⟨some 19, .mv (.t 2), some (18, false)⟩, ⟨some 20, .bin .neq (.t 19) (.k (.int .i64 0)), some (18, false)⟩, ⟨some 21, .mv (.t 20), some (18, false)⟩, ⟨some 22, .mv (.t 2), some (21, true)⟩, ⟨some 23, .bin .neq (.t 22) (.k (.int .i64 2)), some (21, true)⟩, ⟨some 24, .pick (.t 21) (.t 23) (.k (.bool false)), some (18, false)⟩, ⟨some 25, .mv (.t 24), some (18, false)⟩, ⟨some 26, .mv (.t 2), some (25, true)⟩, ⟨some 27, .bin .neq (.t 26) (.k (.int .i64 4)), some (25, true)⟩, ⟨some 28, .pick (.t 25) (.t 27) (.k (.bool false)), some (18, false)⟩, ⟨some 29, .pick (.t 18) (.k (.bool true)) (.t 28), none⟩, ⟨some 30, .mv (.t 29), none⟩, ⟨some 31, .load true 3 (.t 3) (some 3), some (30, false)⟩, ⟨some 32, .call 83 [(.t 31)], some (30, false)⟩, ⟨some 33, .not (.t 32), some (30, false)⟩, ⟨some 34, .pick (.t 30) (.k (.bool true)) (.t 33), none⟩])
 (.cond (.t 34)
 (.seq (.region [⟨some 6, .mv (.nil .u8), none⟩, ⟨some 7, .mv (.k (.int .i64 1)), none⟩])
 .ret)
 .skip))
 (.seq (.seq (.region [⟨some 35, .fld 0 (.t 3), none⟩, ⟨some 36, .load false 1 (.t 35) (some 3), none⟩, ⟨some 37, .call 40 [(.t 36)], none⟩, ⟨some 38, .not (.t 37), none⟩])
 (.cond (.t 38)
 (.seq (.region [⟨some 6, .mv (.nil .u8), none⟩, ⟨some 7, .mv (.k (.int .i64 2)), none⟩])
 .ret)
 .skip))
 (.seq (.region [⟨some 39, .fld 1 (.t 3), none⟩, ⟨some 40, .load false 1 (.t 39) (some 3), none⟩, ⟨some 41, .bin .mul (.t 40) (.k (.int .i64 1000)), none⟩, ⟨some 42, .fld 2 (.t 3), none⟩, ⟨some 43, .load false 1 (.t 42) (some 3), none⟩, ⟨some 44, .bin .quo (.t 43) (.k (.int .i64 1000000000000000)), none⟩, ⟨some 45, .bin .add (.t 41) (.t 44), none⟩, ⟨some 8, .mv (.t 45), none⟩])
 (.seq (.region [⟨some 46, .mv (.t 1), none⟩, ⟨some 47, .bin .sub (.t 46) (.k (.int .i64 2)), none⟩, ⟨some 48, .bin .mul (.k (.int .i64 4)) (.t 47), none⟩, ⟨some 49, .bin .add (.k (.int .i64 64)) (.t 48), none⟩, ⟨some 50, .mv (.t 2), none⟩, ⟨some 51, .bin .quo (.t 50) (.k (.int .i64 2)), none⟩, ⟨some 52, .bin .add (.t 49) (.t 51), none⟩, ⟨some 53, .cvt .u8 (.t 52), none⟩, ⟨some 54, .bldS ⟨5, 1, some .u8⟩ [.v (.int .u8 0)] 1 [(0, 1, (.t 53))], none⟩, ⟨some 55, .fld 0 (.t 3), none⟩, ⟨some 56, .load false 1 (.t 55) (some 3), none⟩, ⟨some 57, .bin .sub (.t 56) (.k (.int .i64 36204)), none⟩, ⟨some 58, .call 24 [(.t 57)], none⟩, ⟨some 59, .mv (.t 1), none⟩, ⟨some 60, .call 84 [(.t 58), (.t 59)], none⟩, ⟨some 61, .mv (.t 1), none⟩, ⟨some 62, .call 71 [(.t 60), (.t 61)], none⟩, ⟨some 63, .callR 70 [(.t 54), (.t 62)], none⟩, ⟨some 9, .mv (.t 63), none⟩])
 (.seq (.region [⟨some 64, .mv (.t 9), none⟩, ⟨some 65, .mv (.t 8), none⟩, ⟨some 66, .call 24 [(.t 65)], none⟩, ⟨some 67, .call 71 [(.t 66), (.k (.int .i64 4))], none⟩, ⟨some 68, .call 70 [(.t 64), (.t 67)], none⟩, ⟨some 9, .mv (.t 68), none⟩])
 (.seq (.seq (.region [⟨some 69, .mv (.t 2), none⟩, ⟨some 70, .bin .eql (.t 69) (.k (.int .i64 0)), none⟩])
 (.cond (.t 70)
 (.seq (.region [⟨some 71, .mv (.t 9), none⟩, ⟨some 6, .mv (.t 71), none⟩, ⟨some 7, .mv (.k (.int .i64 0)), none⟩])
 .ret)
 .skip))
 (.seq (.region [⟨some 73, .mv (.t 2), none⟩, ⟨some 74, .call 39 [(.t 73)], none⟩, ⟨some 72, .mv (.t 74), none⟩, ⟨some 75, .ext (.t 72) 0, none⟩, ⟨some 76, .ext (.t 72) 1, none⟩, ⟨some 10, .mv (.t 75), none⟩, ⟨some 11, .mv (.t 76), none⟩])
 (.seq (.region [⟨some 77, .mv (.t 9), none⟩, ⟨some 78, .fld 2 (.t 3), none⟩, ⟨some 79, .load false 1 (.t 78) (some 3), none⟩, ⟨some 80, .bin .rem (.t 79) (.k (.int .i64 1000000000000000)), none⟩, ⟨some 81, .mv (.t 10), none⟩, ⟨some 82, .bin .quo (.t 80) (.t 81), none⟩, ⟨some 83, .call 24 [(.t 82)], none⟩, ⟨some 84, .mv (.t 2), none⟩, ⟨some 85, .call 71 [(.t 83), (.t 84)], none⟩, ⟨some 86, .call 70 [(.t 77), (.t 85)], none⟩, ⟨some 6, .mv (.t 86), none⟩, ⟨some 7, .mv (.k (.int .i64 0)), none⟩])
 .ret)))))))))⟩
theorem epactref19_Cds.chk : chkFn Try.prog Try.f35 epactref19_Cds.c = true := by kernel_rfl
theorem epactref19_Cds.ent : ∀ args w, (callFunc 35 args).run Try.prog w = .ok (.enter 35 args) w := enters Try.func35 (by kernel_rfl) (by kernel_rfl)

/-- epact/epactlaw23.answers -/
def epactlaw23_answers.c : SF := ⟨45, [.t 0],
 (.seq (.region [⟨some 0, .mv (.k (.bool false)), none⟩])
 (.seq (.region [⟨some 8, .build [.v (.int .i64 0), .v (.int .i64 0), .v (.int .i64 0)] [(0, 1, (.k (.int .i64 36205))), (1, 1, (.k (.int .i64 1)))], none⟩, ⟨some 1, .alloc [.v (.int .i64 0), .v (.int .i64 0), .v (.int .i64 0)], none⟩, ⟨none, .store 3 (.t 1) (.t 8) 1, none⟩])
 (.seq (.region [⟨some 10, .load true 3 (.t 1) (some 1), none⟩, ⟨some 11, .call 34 [(.t 10), (.k (.int .i64 2)), (.k (.int .i64 0))], none⟩, ⟨some 9, .mv (.t 11), none⟩, ⟨some 12, .ext (.t 9) 0, none⟩, ⟨some 13, .ext (.t 9) 1, none⟩, ⟨some 2, .mv (.t 12), none⟩, ⟨some 3, .mv (.t 13), none⟩])
 (.seq (.region [⟨some 15, .mv (.t 2), none⟩, ⟨some 16, .call 37 [(.t 15), (.k (.int .i64 36204))], none⟩, ⟨some 14, .mv (.t 16), none⟩, ⟨some 17, .ext (.t 14) 0, none⟩, ⟨some 18, .ext (.t 14) 1, none⟩, ⟨some 19, .ext (.t 14) 2, none⟩, ⟨some 20, .ext (.t 14) 3, none⟩, ⟨some 4, .alloc [.v (.int .i64 0), .v (.int .i64 0), .v (.int .i64 0)], none⟩, ⟨none, .store 3 (.t 4) (.t 17) 4, none⟩, ⟨some 5, .mv (.t 18), none⟩, ⟨some 6, .mv (.t 19), none⟩, ⟨some 7, .mv (.t 20), none⟩])
 (.seq (.region [⟨some 21, .mv (.t 3), none⟩, ⟨some 22, .bin .eql (.t 21) (.k (.int .i64 0)), none⟩, ⟨some 23, .mv (.t 22), none⟩, ⟨some 24, .mv (.t 2), some (23, true)⟩, ⟨some 25, .str (.t 24), some (23, true)⟩, ⟨some 26, .eqt false (.t 25) (.k (.string ⟨#[64, 0, 1, 0, 0, 3, 232]⟩)), some (23, true)⟩, ⟨some 27, .pick (.t 23) (.t 26) (.k (.bool false)), none⟩, ⟨some 28, .mv (.t 27), none⟩, ⟨some 29, .mv (.t 7), some (28, true)⟩, ⟨some 30, .bin .eql (.t 29) (.k (.int .i64 0)), some (28, true)⟩, ⟨some 31, .pick (.t 28) (.t 30) (.k (.bool false)), none⟩, ⟨some 32, .mv (.t 31), none⟩, ⟨some 33, .load true 3 (.t 4) (some 4), some (32, true)⟩, ⟨some 34, .load true 3 (.t 1) (some 1), some (32, true)⟩, ⟨some 35, .eqs false [.i64, .i64, .i64] (.t 33) (.t 34), some (32, true)⟩, ⟨some 36, .pick (.t 32) (.t 35) (.k (.bool false)), none⟩, ⟨some 37, .mv (.t 36), none⟩, ⟨some 38, .mv (.t 5), some (37, true)⟩, ⟨some 39, .bin .eql (.t 38) (.k (.int .i64 2)), some (37, true)⟩, ⟨some 40, .pick (.t 37) (.t 39) (.k (.bool false)), none⟩, ⟨some 41, .mv (.t 40), none⟩, ⟨some 42, .mv (.t 6), some (41, true)⟩, ⟨some 43, .bin .eql (.t 42) (.k (.int .i64 0)), some (41, true)⟩, ⟨some 44, .pick (.t 41) (.t 43) (.k (.bool false)), none⟩, ⟨some 0, .mv (.t 44), none⟩])
 .ret)))))⟩
theorem epactlaw23_answers.chk : chkFn Try.prog Try.f36 epactlaw23_answers.c = true := by kernel_rfl
theorem epactlaw23_answers.ent : ∀ args w, (callFunc 36 args).run Try.prog w = .ok (.enter 36 args) w := enters Try.func36 (by kernel_rfl) (by kernel_rfl)

/-- epact/cds.Decode -/
def cds_Decode.c : SF := ⟨99, [.c 4 true 3, .t 5, .t 6, .t 7],
 (.seq (.region [⟨some 4, .alloc [.v (.int .i64 0), .v (.int .i64 0), .v (.int .i64 0)], none⟩, ⟨some 5, .mv (.k (.int .i64 0)), none⟩, ⟨some 6, .mv (.k (.int .i64 0)), none⟩, ⟨some 7, .mv (.k (.int .i64 0)), none⟩])
 (.seq (.region [⟨some 17, .mv (.t 0), none⟩, ⟨some 18, .call 85 [(.t 17)], none⟩, ⟨some 16, .mv (.t 18), none⟩, ⟨some 19, .ext (.t 16) 0, none⟩, ⟨some 20, .ext (.t 16) 1, none⟩, ⟨some 21, .ext (.t 16) 2, none⟩, ⟨some 5, .mv (.t 19), none⟩, ⟨some 6, .mv (.t 20), none⟩, ⟨some 8, .mv (.t 21), none⟩])
 (.seq (.seq (.region [⟨some 22, .mv (.t 8), none⟩, ⟨some 23, .not (.t 22), none⟩])
 (.cond (.t 23)
 (.seq (.region [⟨some 24, .build [.v (.int .i64 0), .v (.int .i64 0), .v (.int .i64 0)] [], none⟩, ⟨none, .store 3 (.t 4) (.t 24) 4, none⟩, ⟨some 5, .mv (.k (.int .i64 0)), none⟩, ⟨some 6, .mv (.k (.int .i64 0)), none⟩, ⟨some 7, .mv (.k (.int .i64 4)), none⟩])
 .ret)
 .skip))
 (.seq (.region [⟨some 25, .mv (.t 0), none⟩, ⟨some 26, .mv (.t 5), none⟩, ⟨some 27, .bin .add (.k (.int .i64 1)) (.t 26), none⟩, ⟨some 28, .sl (.t 25) (some (.k (.int .i64 1))) (some (.t 27)), none⟩, ⟨some 29, .call 86 [(.t 28)], none⟩, ⟨some 30, .mv (.t 0), none⟩, ⟨some 31, .mv (.t 5), none⟩, ⟨some 32, .bin .add (.k (.int .i64 1)) (.t 31), none⟩, ⟨some 33, .mv (.t 5), none⟩, ⟨some 34, .bin .add (.k (.int .i64 5)) (.t 33), none⟩, ⟨some 35, .sl (.t 30) (some (.t 32)) (some (.t 34)), none⟩, ⟨some 36, .call 86 [(.t 35)], none⟩, ⟨some 37, .mv (.t 0), none⟩, ⟨some 38, .mv (.t 5), none⟩, ⟨some 39, .bin .add (.k (.int .i64 5)) (.t 38), none⟩, ⟨some 40, .sl (.t 37) (some (.t 39)) none, none⟩, ⟨some 41, .call 86 [(.t 40)], none⟩, ⟨some 9, .mv (.t 29), none⟩, ⟨some 10, .mv (.t 36), none⟩, ⟨some 11, .mv (.t 41), none⟩])
 (.seq (.block 0
 (.seq (.region [⟨some 43, .mv (.t 10), none⟩, ⟨some 44, .bin .gtr (.t 43) (.k (.int .i64 86400999)), none⟩, ⟨some 45, .mv (.t 44), none⟩, ⟨some 46, .mv (.t 11), some (45, false)⟩, ⟨some 47, .mv (.t 6), some (45, false)⟩, ⟨some 48, .call 78 [(.t 47)], some (45, false)⟩, ⟨some 49, .bin .quo (.k (.int .i64 1000000000000000)) (.t 48), some (45, false)⟩, ⟨some 50, .bin .geq (.t 46) (.t 49), some (45, false)⟩, ⟨some 51, .mv (.t 50), some (45, false)⟩, ⟨some 52, .mv (.t 6), some (51, true)⟩, ⟨some 53, .bin .gtr (.t 52) (.k (.int .i64 0)), some (51, true)⟩, ⟨some 54, .pick (.t 51) (.t 53) (.k (.bool false)), some (45, false)⟩, ⟨some 55, .pick (.t 45) (.k (.bool true)) (.t 54), none⟩, ⟨some 42, .mv (.t 55), none⟩])
 (.cond (.t 42)
 (.seq (.region [⟨some 56, .build [.v (.int .i64 0), .v (.int .i64 0), .v (.int .i64 0)] [], none⟩, ⟨none, .store 3 (.t 4) (.t 56) 4, none⟩, ⟨some 5, .mv (.k (.int .i64 0)), none⟩, ⟨some 6, .mv (.k (.int .i64 0)), none⟩, ⟨some 7, .mv (.k (.int .i64 4)), none⟩])
 .ret)
 (.seq (.region [⟨some 58, .mv (.t 1), none⟩, ⟨some 59, .call 79 [(.t 58)], none⟩, ⟨some 60, .not (.t 59), none⟩, ⟨some 57, .mv (.t 60), none⟩])
 (.cond (.t 57)
 (.seq (.region [⟨some 61, .build [.v (.int .i64 0), .v (.int .i64 0), .v (.int .i64 0)] [], none⟩, ⟨none, .store 3 (.t 4) (.t 61) 4, none⟩, ⟨some 5, .mv (.k (.int .i64 0)), none⟩, ⟨some 6, .mv (.k (.int .i64 0)), none⟩, ⟨some 7, .mv (.k (.int .i64 2)), none⟩])
 .ret)
 .skip)))))
 (.seq (.region [⟨some 63, .mv (.t 9), none⟩, ⟨some 64, .call 55 [(.t 63)], none⟩, ⟨some 65, .mv (.t 5), none⟩, ⟨some 66, .call 80 [(.t 65)], none⟩, ⟨some 67, .mv (.t 1), none⟩, ⟨some 68, .bin .sub (.t 67) (.k (.int .i64 36204)), none⟩, ⟨some 69, .call 55 [(.t 68)], none⟩, ⟨some 70, .call 75 [(.t 64), (.t 66), (.t 69)], none⟩, ⟨some 62, .mv (.t 70), none⟩, ⟨some 71, .ext (.t 62) 0, none⟩, ⟨some 72, .ext (.t 62) 1, none⟩, ⟨some 12, .alloc [.v (.int .i64 0), .v (.int .u64 0)], none⟩, ⟨none, .store 2 (.t 12) (.t 71) 12, none⟩, ⟨some 13, .mv (.t 72), none⟩])
 (.seq (.region [⟨some 74, .load true 2 (.t 12) (some 12), none⟩, ⟨some 75, .call 56 [(.t 74)], none⟩, ⟨some 73, .mv (.t 75), none⟩, ⟨some 76, .ext (.t 73) 0, none⟩, ⟨some 77, .ext (.t 73) 1, none⟩, ⟨some 14, .mv (.t 76), none⟩, ⟨some 15, .mv (.t 77), none⟩])
 (.seq (.region [⟨some 78, .mv (.t 14), none⟩, ⟨some 79, .bin .add (.t 78) (.k (.int .i64 36204)), none⟩, ⟨some 80, .mv (.t 10), none⟩, ⟨some 81, .bin .quo (.t 80) (.k (.int .i64 1000)), none⟩, ⟨some 82, .mv (.t 10), none⟩, ⟨some 83, .bin .rem (.t 82) (.k (.int .i64 1000)), none⟩, ⟨some 84, .bin .mul (.t 83) (.k (.int .i64 1000000000000000)), none⟩, ⟨some 85, .mv (.t 11), none⟩, ⟨some 86, .mv (.t 6), none⟩, ⟨some 87, .call 78 [(.t 86)], none⟩, ⟨some 88, .bin .mul (.t 85) (.t 87), none⟩, ⟨some 89, .bin .add (.t 84) (.t 88), none⟩, ⟨some 90, .build [.v (.int .i64 0), .v (.int .i64 0), .v (.int .i64 0)] [(0, 1, (.t 79)), (1, 1, (.t 81)), (2, 1, (.t 89))], none⟩, ⟨none, .store 3 (.t 4) (.t 90) 4, none⟩])
 (.seq (.seq (.region [⟨some 91, .fld 0 (.t 4), none⟩, ⟨some 92, .load false 1 (.t 91) (some 4), none⟩, ⟨some 93, .call 79 [(.t 92)], none⟩, ⟨some 94, .not (.t 93), none⟩])
 (.cond (.t 94)
 (.seq (.region [⟨some 95, .build [.v (.int .i64 0), .v (.int .i64 0), .v (.int .i64 0)] [], none⟩, ⟨none, .store 3 (.t 4) (.t 95) 4, none⟩, ⟨some 5, .mv (.k (.int .i64 0)), none⟩, ⟨some 6, .mv (.k (.int .i64 0)), none⟩, ⟨some 7, .mv (.k (.int .i64 2)), none⟩])
 .ret)
 .skip))
 (.seq (.region [⟨some 96, .load true 3 (.t 4) (some 4), none⟩, ⟨some 97, .mv (.t 5), none⟩, ⟨some 98, .mv (.t 6), none⟩, ⟨none, .store 3 (.t 4) (.t 96) 4, none⟩, ⟨some 5, .mv (.t 97), none⟩, ⟨some 6, .mv (.t 98), none⟩, ⟨some 7, .mv (.k (.int .i64 0)), none⟩])
 .ret))))))))))⟩
theorem cds_Decode.chk : chkFn Try.prog Try.f37 cds_Decode.c = true := by kernel_rfl
theorem cds_Decode.ent : ∀ args w, (callFunc 37 args).run Try.prog w = .ok (.enter 37 args) w := enters Try.func37 (by kernel_rfl) (by kernel_rfl)

/-- epact/epactref19.FromCds -/
def epactref19_FromCds.l1 : SC :=
 (.forget [18, 20] (.seq (.seq (.region [⟨some 25, .mv (.t 9), none⟩, ⟨some 26, .bin .leq (.t 25) (.k (.int .i64 4)), none⟩])
 (.cond (.t 26)
 .skip
 (.exit 2)))
 (.seq (.block 3
 (.seq (.seq (.region [⟨some 29, .mv (.t 0), none⟩, ⟨some 30, .len (.t 29), none⟩, ⟨some 31, .mv (.t 8), none⟩, ⟨some 32, .bin .add (.k (.int .i64 5)) (.t 31), none⟩, ⟨some 33, .mv (.t 9), none⟩, ⟨some 34, .bin .add (.t 32) (.t 33), none⟩, ⟨some 35, .bin .neq (.t 30) (.t 34), none⟩, ⟨some 36, .mv (.t 35), none⟩, ⟨some 37, .mv (.t 0), some (36, false)⟩, ⟨some 38, .idx 1 (.t 37) (.k (.int .i64 0)), some (36, false)⟩, ⟨some 39, .load false 1 (.t 38) none, some (36, false)⟩, ⟨some 40, .cvt .i64 (.t 39), some (36, false)⟩, ⟨some 41, .mv (.t 8), some (36, false)⟩, ⟨some 42, .bin .sub (.t 41) (.k (.int .i64 2)), some (36, false)⟩, ⟨some 43, .bin .mul (.k (.int .i64 4)) (.t 42), some (36, false)⟩, ⟨some 44, .bin .add (.k (.int .i64 64)) (.t 43), some (36, false)⟩, ⟨some 45, .mv (.t 9), some (36, false)⟩, ⟨some 46, .bin .quo (.t 45) (.k (.int .i64 2)), some (36, false)⟩, ⟨some 47, .bin .add (.t 44) (.t 46), some (36, false)⟩, ⟨some 48, .bin .neq (.t 40) (.t 47), some (36, false)⟩, ⟨some 49, .pick (.t 36) (.k (.bool true)) (.t 48), none⟩])
 (.cond (.t 49)
 (.exit 3)
 .skip))
 (.seq (.region [⟨some 51, .mv (.t 0), none⟩, ⟨some 52, .mv (.t 8), none⟩, ⟨some 53, .bin .add (.k (.int .i64 1)) (.t 52), none⟩, ⟨some 54, .sl (.t 51) (some (.k (.int .i64 1))) (some (.t 53)), none⟩, ⟨some 55, .call 76 [(.t 54)], none⟩, ⟨some 56, .call 25 [(.t 55)], none⟩, ⟨some 50, .mv (.t 56), none⟩, ⟨some 57, .ext (.t 50) 0, none⟩, ⟨some 58, .ext (.t 50) 1, none⟩, ⟨some 10, .mv (.t 57), none⟩, ⟨some 11, .mv (.t 58), none⟩])
 (.seq (.region [⟨some 60, .mv (.t 0), none⟩, ⟨some 61, .mv (.t 8), none⟩, ⟨some 62, .bin .add (.k (.int .i64 1)) (.t 61), none⟩, ⟨some 63, .mv (.t 8), none⟩, ⟨some 64, .bin .add (.k (.int .i64 5)) (.t 63), none⟩, ⟨some 65, .sl (.t 60) (some (.t 62)) (some (.t 64)), none⟩, ⟨some 66, .call 76 [(.t 65)], none⟩, ⟨some 67, .call 25 [(.t 66)], none⟩, ⟨some 59, .mv (.t 67), none⟩, ⟨some 68, .ext (.t 59) 0, none⟩, ⟨some 69, .ext (.t 59) 1, none⟩, ⟨some 12, .mv (.t 68), none⟩, ⟨some 13, .mv (.t 69), none⟩])
 (.seq (.region [⟨some 71, .mv (.t 0), none⟩, ⟨some 72, .mv (.t 8), none⟩, ⟨some 73, .bin .add (.k (.int .i64 5)) (.t 72), none⟩, ⟨some 74, .sl (.t 71) (some (.t 73)) none, none⟩, ⟨some 75, .call 76 [(.t 74)], none⟩, ⟨some 76, .call 25 [(.t 75)], none⟩, ⟨some 70, .mv (.t 76), none⟩, ⟨some 77, .ext (.t 70) 0, none⟩, ⟨some 78, .ext (.t 70) 1, none⟩, ⟨some 14, .mv (.t 77), none⟩, ⟨some 15, .mv (.t 78), none⟩])
 (.seq (.region [⟨some 80, .mv (.t 9), none⟩, ⟨some 81, .call 39 [(.t 80)], none⟩, ⟨some 79, .mv (.t 81), none⟩, ⟨some 82, .ext (.t 79) 0, none⟩, ⟨some 83, .ext (.t 79) 1, none⟩, ⟨some 16, .mv (.t 82), none⟩, ⟨some 17, .mv (.t 83), none⟩])
 (.seq (.seq (.region [⟨some 84, .mv (.t 12), none⟩, ⟨some 85, .bin .gtr (.t 84) (.k (.int .i64 86400999)), none⟩, ⟨some 86, .mv (.t 85), none⟩, ⟨some 87, .mv (.t 9), some (86, false)⟩, ⟨some 88, .bin .gtr (.t 87) (.k (.int .i64 0)), some (86, false)⟩, ⟨some 89, .mv (.t 88), some (86, false)⟩, ⟨some 90, .mv (.t 14), some (89, true)⟩, ⟨some 91, .mv (.t 17), some (89, true)⟩, ⟨some 92, .bin .geq (.t 90) (.t 91), some (89, true)⟩, ⟨some 93, .pick (.t 89) (.t 92) (.k (.bool false)), some (86, false)⟩, ⟨some 94, .pick (.t 86) (.k (.bool true)) (.t 93), none⟩])
 (.cond (.t 94)
 (.seq (.region [⟨some 95, .build [.v (.int .i64 0), .v (.int .i64 0), .v (.int .i64 0)] [], none⟩, ⟨none, .store 3 (.t 4) (.t 95) 4, none⟩, ⟨some 5, .mv (.k (.int .i64 0)), none⟩, ⟨some 6, .mv (.k (.int .i64 0)), none⟩, ⟨some 7, .mv (.k (.int .i64 4)), none⟩])
 .ret)
 .skip))
 (.seq (.seq (.region [⟨some 96, .mv (.t 1), none⟩, ⟨some 97, .call 40 [(.t 96)], none⟩, ⟨some 98, .not (.t 97), none⟩])
 (.cond (.t 98)
 (.seq (.region [⟨some 99, .build [.v (.int .i64 0), .v (.int .i64 0), .v (.int .i64 0)] [], none⟩, ⟨none, .store 3 (.t 4) (.t 99) 4, none⟩, ⟨some 5, .mv (.k (.int .i64 0)), none⟩, ⟨some 6, .mv (.k (.int .i64 0)), none⟩, ⟨some 7, .mv (.k (.int .i64 2)), none⟩])
 .ret)
 .skip))
 (.seq (.region [⟨some 101, .mv (.t 10), none⟩, ⟨some 102, .call 24 [(.t 101)], none⟩, ⟨some 103, .mv (.t 8), none⟩, ⟨some 104, .call 47 [(.t 103)], none⟩, ⟨some 105, .mv (.t 1), none⟩, ⟨some 106, .bin .sub (.t 105) (.k (.int .i64 36204)), none⟩, ⟨some 107, .call 24 [(.t 106)], none⟩, ⟨some 108, .call 77 [(.t 102), (.t 104), (.t 107)], none⟩, ⟨some 100, .mv (.t 108), none⟩, ⟨some 109, .ext (.t 100) 0, none⟩, ⟨some 110, .ext (.t 100) 1, none⟩, ⟨some 18, .alloc [.v (.int .i64 0), .v (.int .u64 0)], none⟩, ⟨none, .store 2 (.t 18) (.t 109) 18, none⟩, ⟨some 19, .mv (.t 110), none⟩])
 (.seq (.region [⟨some 111, .fld 1 (.t 18), none⟩, ⟨some 112, .load false 1 (.t 111) (some 18), none⟩, ⟨some 113, .cvt .i64 (.t 112), none⟩, ⟨some 114, .bin .add (.t 113) (.k (.int .i64 36204)), none⟩, ⟨some 115, .mv (.t 12), none⟩, ⟨some 116, .bin .quo (.t 115) (.k (.int .i64 1000)), none⟩, ⟨some 117, .mv (.t 12), none⟩, ⟨some 118, .bin .rem (.t 117) (.k (.int .i64 1000)), none⟩, ⟨some 119, .bin .mul (.t 118) (.k (.int .i64 1000000000000000)), none⟩, ⟨some 120, .mv (.t 14), none⟩, ⟨some 121, .mv (.t 16), none⟩, ⟨some 122, .bin .mul (.t 120) (.t 121), none⟩, ⟨some 123, .bin .add (.t 119) (.t 122), none⟩, ⟨some 124, .build [.v (.int .i64 0), .v (.int .i64 0), .v (.int .i64 0)] [(0, 1, (.t 114)), (1, 1, (.t 116)), (2, 1, (.t 123))], none⟩, ⟨some 20, .alloc [.v (.int .i64 0), .v (.int .i64 0), .v (.int .i64 0)], none⟩, ⟨none, .store 3 (.t 20) (.t 124) 20, none⟩])
 (.seq (.seq (.region [⟨some 125, .fld 0 (.t 20), none⟩, ⟨some 126, .load false 1 (.t 125) (some 20), none⟩, ⟨some 127, .call 40 [(.t 126)], none⟩, ⟨some 128, .not (.t 127), none⟩])
 (.cond (.t 128)
 (.seq (.region [⟨some 129, .build [.v (.int .i64 0), .v (.int .i64 0), .v (.int .i64 0)] [], none⟩, ⟨none, .store 3 (.t 4) (.t 129) 4, none⟩, ⟨some 5, .mv (.k (.int .i64 0)), none⟩, ⟨some 6, .mv (.k (.int .i64 0)), none⟩, ⟨some 7, .mv (.k (.int .i64 2)), none⟩])
 .ret)
 .skip))
 (.seq (.region [⟨some 130, .load true 3 (.t 20) (some 20), none⟩, ⟨some 131, .mv (.t 8), none⟩, ⟨some 132, .mv (.t 9), none⟩, ⟨none, .store 3 (.t 4) (.t 130) 4, none⟩, ⟨some 5, .mv (.t 131), none⟩, ⟨some 6, .mv (.t 132), none⟩, ⟨some 7, .mv (.k (.int .i64 0)), none⟩])
 .ret))))))))))))
 (.region [⟨some 27, .mv (.t 9), none⟩, ⟨some 28, .bin .add (.t 27) (.k (.int .i64 2)), none⟩, ⟨some 9, .mv (.t 28), none⟩]))))
def epactref19_FromCds.l2 : SC :=
 (.forget [18, 20] (.seq (.seq (.region [⟨some 21, .mv (.t 8), none⟩, ⟨some 22, .bin .leq (.t 21) (.k (.int .i64 3)), none⟩])
 (.cond (.t 22)
 .skip
 (.exit 0)))
 (.seq (.block 1
 (.seq (.region [⟨some 9, .mv (.k (.int .i64 0)), none⟩])
 (.block 2
 (.loop epactref19_FromCds.l1))))
 (.region [⟨some 23, .mv (.t 8), none⟩, ⟨some 24, .bin .add (.t 23) (.k (.int .i64 1)), none⟩, ⟨some 8, .mv (.t 24), none⟩]))))
def epactref19_FromCds.c : SF := ⟨134, [.c 4 true 3, .t 5, .t 6, .t 7],
 (.seq (.region [⟨some 4, .alloc [.v (.int .i64 0), .v (.int .i64 0), .v (.int .i64 0)], none⟩, ⟨some 5, .mv (.k (.int .i64 0)), none⟩, ⟨some 6, .mv (.k (.int .i64 0)), none⟩, ⟨some 7, .mv (.k (.int .i64 0)), none⟩])
 (.seq (.seq (.region [⟨some 8, .mv (.k (.int .i64 2)), none⟩])
 (.block 0
 (.loop epactref19_FromCds.l2)))
 (.seq (.region [⟨some 133, .build [.v (.int .i64 0), .v (.int .i64 0), .v (.int .i64 0)] [], none⟩, ⟨none, .store 3 (.t 4) (.t 133) 4, none⟩, ⟨some 5, .mv (.k (.int .i64 0)), none⟩, ⟨some 6, .mv (.k (.int .i64 0)), none⟩, ⟨some 7, .mv (.k (.int .i64 4)), none⟩])
 .ret)))⟩
theorem epactref19_FromCds.chk : chkFn Try.prog Try.f38 epactref19_FromCds.c = true := by kernel_rfl
theorem epactref19_FromCds.ent : ∀ args w, (callFunc 38 args).run Try.prog w = .ok (.enter 38 args) w := enters Try.func38 (by kernel_rfl) (by kernel_rfl)

/-- epact/epactref19.Part -/
def epactref19_Part.c : SF := ⟨6, [.t 2, .t 3],
 (.seq (.region [⟨some 2, .mv (.k (.int .i64 0)), none⟩, ⟨some 3, .mv (.k (.int .i64 0)), none⟩])
 (.seq (.seq (.region [⟨some 4, .mv (.t 0), none⟩, ⟨some 5, .bin .eql (.t 4) (.k (.int .i64 2)), none⟩])
 (.cond (.t 5)
 (.seq (.region [⟨some 2, .mv (.k (.int .i64 1000000000000)), none⟩, ⟨some 3, .mv (.k (.int .i64 1000)), none⟩])
 .ret)
 .skip))
 (.seq (.region [⟨some 2, .mv (.k (.int .i64 1000000)), none⟩, ⟨some 3, .mv (.k (.int .i64 1000000000)), none⟩])
 .ret)))⟩
theorem epactref19_Part.chk : chkFn Try.prog Try.f39 epactref19_Part.c = true := by kernel_rfl
theorem epactref19_Part.ent : ∀ args w, (callFunc 39 args).run Try.prog w = .ok (.enter 39 args) w := enters Try.func39 (by kernel_rfl) (by kernel_rfl)

/-- epact/epactref05.In -/
def epactref05_In.c : SF := ⟨9, [.t 2],
 (.seq (.region [⟨some 2, .mv (.k (.bool false)), none⟩])
 (.seq (.region [⟨some 3, .mv (.t 0), none⟩, ⟨some 4, .bin .geq (.t 3) (.k (.int .i64 (-1099511627776))), none⟩, ⟨some 5, .mv (.t 4), none⟩, ⟨some 6, .mv (.t 0), some (5, true)⟩, ⟨some 7, .bin .leq (.t 6) (.k (.int .i64 1099511627776)), some (5, true)⟩, ⟨some 8, .pick (.t 5) (.t 7) (.k (.bool false)), none⟩, ⟨some 2, .mv (.t 8), none⟩])
 .ret))⟩
theorem epactref05_In.chk : chkFn Try.prog Try.f40 epactref05_In.c = true := by kernel_rfl
theorem epactref05_In.ent : ∀ args w, (callFunc 40 args).run Try.prog w = .ok (.enter 40 args) w := enters Try.func40 (by kernel_rfl) (by kernel_rfl)

/-- epact/ntp.Encode -/
def ntp_Encode.c : SF := ⟨82, [.t 4, .t 5],
 (.seq (.region [⟨some 3, .box (.t 1), none⟩, ⟨some 4, .mv (.nil .u8), none⟩, ⟨some 5, .mv (.k (.int .i64 0)), none⟩])
 (.seq (.region [⟨some 22, .mv (.t 0), none⟩, ⟨some 23, .call 87 [(.t 22)], none⟩, ⟨some 21, .mv (.t 23), none⟩, ⟨some 24, .ext (.t 21) 0, none⟩, ⟨some 25, .ext (.t 21) 1, none⟩, ⟨some 6, .mv (.t 24), none⟩, ⟨some 7, .mv (.t 25), none⟩])
 (.seq (.seq (.region [⟨some 26, .mv (.t 7), none⟩, ⟨some 27, .bin .neq (.t 26) (.k (.int .i64 0)), none⟩])
 (.cond (.t 27)
 (.seq (.region [⟨some 28, .mv (.t 7), none⟩, ⟨some 4, .mv (.nil .u8), none⟩, ⟨some 5, .mv (.t 28), none⟩])
 .ret)
 .skip))
 (.seq (.region [⟨some 30, .load true 2 (.t 3) (some 3), none⟩, ⟨some 31, .call 55 [(.k (.int .i64 1000000000000000000))], none⟩, ⟨some 32, .call 54 [(.t 30), (.t 31)], none⟩, ⟨some 29, .mv (.t 32), none⟩, ⟨some 33, .ext (.t 29) 0, none⟩, ⟨some 34, .ext (.t 29) 1, none⟩, ⟨some 35, .ext (.t 29) 2, none⟩, ⟨some 8, .alloc [.v (.int .i64 0), .v (.int .u64 0)], none⟩, ⟨some 9, .alloc [.v (.int .i64 0), .v (.int .u64 0)], none⟩, ⟨none, .store 2 (.t 8) (.t 33) 8, none⟩, ⟨none, .store 2 (.t 9) (.t 34) 9, none⟩, ⟨some 10, .mv (.t 35), none⟩])
 (.seq (.seq (.region [⟨some 37, .load true 2 (.t 8) (some 8), none⟩, ⟨some 38, .call 56 [(.t 37)], none⟩, ⟨some 36, .mv (.t 38), none⟩, ⟨some 39, .ext (.t 36) 0, none⟩, ⟨some 40, .ext (.t 36) 1, none⟩, ⟨some 11, .mv (.t 39), none⟩, ⟨some 12, .mv (.t 40), none⟩])
 (.seq (.region [⟨some 41, .mv (.t 6), none⟩, ⟨some 42, .bin .eql (.t 41) (.k (.int .i64 8)), none⟩, ⟨some 43, .mv (.t 42), none⟩, ⟨some 44, .mv (.t 12), some (43, true)⟩, ⟨some 45, .bin .neq (.t 44) (.k (.int .i64 0)), some (43, true)⟩, ⟨some 46, .pick (.t 43) (.t 45) (.k (.bool false)), none⟩])
 (.cond (.t 46)
 (.seq (.region [⟨some 47, .mv (.t 12), none⟩, ⟨some 4, .mv (.nil .u8), none⟩, ⟨some 5, .mv (.t 47), none⟩])
 .ret)
 .skip)))
 (.seq (.region [⟨some 49, .load true 2 (.t 8) (some 8), none⟩, ⟨some 50, .mv (.t 6), none⟩, ⟨some 51, .call 88 [(.t 50)], none⟩, ⟨some 52, .call 67 [(.t 49), (.t 51)], none⟩, ⟨some 48, .mv (.t 52), none⟩, ⟨some 53, .ext (.t 48) 0, none⟩, ⟨some 54, .ext (.t 48) 1, none⟩, ⟨none, .store 2 (.t 8) (.t 53) 8, none⟩])
 (.seq (.region [⟨some 56, .load true 2 (.t 9) (some 9), none⟩, ⟨some 57, .call 56 [(.t 56)], none⟩, ⟨some 55, .mv (.t 57), none⟩, ⟨some 58, .ext (.t 55) 0, none⟩, ⟨some 59, .ext (.t 55) 1, none⟩, ⟨some 13, .mv (.t 58), none⟩, ⟨some 14, .mv (.t 59), none⟩])
 (.seq (.region [⟨some 61, .mv (.t 13), none⟩, ⟨some 62, .mv (.t 6), none⟩, ⟨some 63, .call 89 [(.t 61), (.t 62)], none⟩, ⟨some 60, .mv (.t 63), none⟩, ⟨some 64, .ext (.t 60) 0, none⟩, ⟨some 65, .ext (.t 60) 1, none⟩, ⟨some 15, .alloc [.v (.int .i64 0), .v (.int .u64 0)], none⟩, ⟨none, .store 2 (.t 15) (.t 64) 15, none⟩, ⟨some 16, .mv (.t 65), none⟩])
 (.seq (.region [⟨some 67, .load true 2 (.t 8) (some 8), none⟩, ⟨some 68, .mv (.t 6), none⟩, ⟨some 69, .call 68 [(.t 67), (.t 68)], none⟩, ⟨some 66, .mv (.t 69), none⟩, ⟨some 70, .ext (.t 66) 0, none⟩, ⟨some 71, .ext (.t 66) 1, none⟩, ⟨some 17, .mv (.t 70), none⟩, ⟨some 18, .mv (.t 71), none⟩])
 (.seq (.region [⟨some 73, .load true 2 (.t 15) (some 15), none⟩, ⟨some 74, .mv (.t 6), none⟩, ⟨some 75, .call 68 [(.t 73), (.t 74)], none⟩, ⟨some 72, .mv (.t 75), none⟩, ⟨some 76, .ext (.t 72) 0, none⟩, ⟨some 77, .ext (.t 72) 1, none⟩, ⟨some 19, .mv (.t 76), none⟩, ⟨some 20, .mv (.t 77), none⟩])
 (.seq (.region [⟨some 78, .mv (.t 17), none⟩, ⟨some 79, .mv (.t 19), none⟩, ⟨some 80, .bldS ⟨41, 1, none⟩ [.nil .u8, .nil .u8] 2 [(0, 1, (.t 78)), (1, 1, (.t 79))], none⟩, ⟨some 81, .callR 69 [(.t 80)], none⟩, ⟨some 4, .mv (.t 81), none⟩, ⟨some 5, .mv (.k (.int .i64 0)), none⟩])
 .ret)))))))))))⟩
theorem ntp_Encode.chk : chkFn Try.prog Try.f41 ntp_Encode.c = true := by kernel_rfl
theorem ntp_Encode.ent : ∀ args w, (callFunc 41 args).run Try.prog w = .ok (.enter 41 args) w := enters Try.func41 (by kernel_rfl) (by kernel_rfl)

/-- epact/epactref19.Ntp -/
def epactref19_Ntp.c : SF := ⟨50, [.t 4, .t 5],
 (.seq (.region [⟨some 3, .box (.t 1), none⟩, ⟨some 4, .mv (.nil .u8), none⟩, ⟨some 5, .mv (.k (.int .i64 0)), none⟩])
 (.seq (.seq (.region [⟨some 11, .mv (.t 0), none⟩, ⟨some 12, .bin .neq (.t 11) (.k (.int .i64 32)), none⟩, ⟨some 13, .mv (.t 12), none⟩, ⟨some 14, .mv (.t 0), some (13, true)⟩, ⟨some 15, .bin .neq (.t 14) (.k (.int .i64 64)), some (13, true)⟩, ⟨some 16, .pick (.t 13) (.t 15) (.k (.bool false)), none⟩, ⟨some 17, .mv (.t 16), none⟩, ⟨some 18, .mv (.t 0), some (17, true)⟩, ⟨some 19, .bin .neq (.t 18) (.k (.int .i64 128)), some (17, true)⟩, ⟨some 20, .pick (.t 17) (.t 19) (.k (.bool false)), none⟩])
 (.cond (.t 20)
 (.seq (.region [⟨some 4, .mv (.nil .u8), none⟩, ⟨some 5, .mv (.k (.int .i64 1)), none⟩])
 .ret)
 .skip))
 (.seq (.region [⟨some 22, .load true 2 (.t 3) (some 3), none⟩, ⟨some 23, .call 21 [(.t 22)], none⟩, ⟨some 21, .mv (.t 23), none⟩, ⟨some 24, .ext (.t 21) 0, none⟩, ⟨some 25, .ext (.t 21) 1, none⟩, ⟨some 6, .alloc [.v (.bool false), .nil .i64], none⟩, ⟨none, .store 2 (.t 6) (.t 24) 6, none⟩, ⟨some 7, .mv (.t 25), none⟩])
 (.seq (.seq (.region [⟨some 27, .load true 2 (.t 6) (some 6), none⟩, ⟨some 28, .call 25 [(.t 27)], none⟩, ⟨some 26, .mv (.t 28), none⟩, ⟨some 29, .ext (.t 26) 0, none⟩, ⟨some 30, .ext (.t 26) 1, none⟩, ⟨some 8, .mv (.t 29), none⟩, ⟨some 9, .mv (.t 30), none⟩])
 (.seq (.region [⟨some 31, .mv (.t 0), none⟩, ⟨some 32, .bin .eql (.t 31) (.k (.int .i64 128)), none⟩, ⟨some 33, .mv (.t 32), none⟩, ⟨some 34, .mv (.t 9), some (33, true)⟩, ⟨some 35, .not (.t 34), some (33, true)⟩, ⟨some 36, .pick (.t 33) (.t 35) (.k (.bool false)), none⟩])
 (.cond (.t 36)
 (.seq (.region [⟨some 4, .mv (.nil .u8), none⟩, ⟨some 5, .mv (.k (.int .i64 2)), none⟩])
 .ret)
 .skip)))
 (.seq (.region [⟨some 37, .mv (.t 0), none⟩, ⟨some 38, .bin .quo (.t 37) (.k (.int .i64 16)), none⟩, ⟨some 10, .mv (.t 38), none⟩])
 (.seq (.region [⟨some 39, .load true 2 (.t 6) (some 6), none⟩, ⟨some 40, .mv (.t 10), none⟩, ⟨some 41, .call 84 [(.t 39), (.t 40)], none⟩, ⟨some 42, .mv (.t 10), none⟩, ⟨some 43, .call 71 [(.t 41), (.t 42)], none⟩, ⟨some 44, .mv (.t 7), none⟩, ⟨some 45, .mv (.t 10), none⟩, ⟨some 46, .call 90 [(.t 44), (.t 45)], none⟩, ⟨some 47, .mv (.t 10), none⟩, ⟨some 48, .call 71 [(.t 46), (.t 47)], none⟩, ⟨some 49, .call 70 [(.t 43), (.t 48)], none⟩, ⟨some 4, .mv (.t 49), none⟩, ⟨some 5, .mv (.k (.int .i64 0)), none⟩])
 .ret))))))⟩
theorem epactref19_Ntp.chk : chkFn Try.prog Try.f42 epactref19_Ntp.c = true := by kernel_rfl
theorem epactref19_Ntp.ent : ∀ args w, (callFunc 42 args).run Try.prog w = .ok (.enter 42 args) w := enters Try.func42 (by kernel_rfl) (by kernel_rfl)

/-- epact/epactlaw20.answers -/
def epactlaw20_answers.c : SF := ⟨43, [.t 0],
 (.seq (.region [⟨some 0, .mv (.k (.bool false)), none⟩])
 (.seq (.region [⟨some 8, .call 55 [(.k (.int .i64 1500000000000000000))], none⟩, ⟨some 9, .call 41 [(.k (.int .i64 64)), (.t 8)], none⟩, ⟨some 7, .mv (.t 9), none⟩, ⟨some 10, .ext (.t 7) 0, none⟩, ⟨some 11, .ext (.t 7) 1, none⟩, ⟨some 1, .mv (.t 10), none⟩, ⟨some 2, .mv (.t 11), none⟩])
 (.seq (.region [⟨some 13, .mv (.t 1), none⟩, ⟨some 14, .call 55 [(.k (.int .i64 0))], none⟩, ⟨some 15, .call 44 [(.k (.int .i64 64)), (.t 13), (.t 14)], none⟩, ⟨some 12, .mv (.t 15), none⟩, ⟨some 16, .ext (.t 12) 0, none⟩, ⟨some 17, .ext (.t 12) 1, none⟩, ⟨some 3, .alloc [.v (.int .i64 0), .v (.int .u64 0)], none⟩, ⟨none, .store 2 (.t 3) (.t 16) 3, none⟩, ⟨some 4, .mv (.t 17), none⟩])
 (.seq (.region [⟨some 19, .load true 2 (.t 3) (some 3), none⟩, ⟨some 20, .call 41 [(.k (.int .i64 48)), (.t 19)], none⟩, ⟨some 18, .mv (.t 20), none⟩, ⟨some 21, .ext (.t 18) 0, none⟩, ⟨some 22, .ext (.t 18) 1, none⟩, ⟨some 5, .mv (.t 21), none⟩, ⟨some 6, .mv (.t 22), none⟩])
 (.seq (.region [⟨some 23, .mv (.t 2), none⟩, ⟨some 24, .bin .eql (.t 23) (.k (.int .i64 0)), none⟩, ⟨some 25, .mv (.t 24), none⟩, ⟨some 26, .mv (.t 1), some (25, true)⟩, ⟨some 27, .str (.t 26), some (25, true)⟩, ⟨some 28, .eqt false (.t 27) (.k (.string ⟨#[0, 0, 0, 1, 128, 0, 0, 0]⟩)), some (25, true)⟩, ⟨some 29, .pick (.t 25) (.t 28) (.k (.bool false)), none⟩, ⟨some 30, .mv (.t 29), none⟩, ⟨some 31, .mv (.t 4), some (30, true)⟩, ⟨some 32, .bin .eql (.t 31) (.k (.int .i64 0)), some (30, true)⟩, ⟨some 33, .pick (.t 30) (.t 32) (.k (.bool false)), none⟩, ⟨some 34, .mv (.t 33), none⟩, ⟨some 35, .load true 2 (.t 3) (some 3), some (34, true)⟩, ⟨some 36, .call 55 [(.k (.int .i64 1500000000000000000))], some (34, true)⟩, ⟨some 37, .eqs false [.i64, .u64] (.t 35) (.t 36), some (34, true)⟩, ⟨some 38, .pick (.t 34) (.t 37) (.k (.bool false)), none⟩, ⟨some 39, .mv (.t 38), none⟩, ⟨some 40, .mv (.t 6), some (39, true)⟩, ⟨some 41, .bin .eql (.t 40) (.k (.int .i64 1)), some (39, true)⟩, ⟨some 42, .pick (.t 39) (.t 41) (.k (.bool false)), none⟩, ⟨some 0, .mv (.t 42), none⟩])
 .ret)))))⟩
theorem epactlaw20_answers.chk : chkFn Try.prog Try.f43 epactlaw20_answers.c = true := by kernel_rfl
theorem epactlaw20_answers.ent : ∀ args w, (callFunc 43 args).run Try.prog w = .ok (.enter 43 args) w := enters Try.func43 (by kernel_rfl) (by kernel_rfl)

/-- epact/ntp.Decode -/
def ntp_Decode.c : SF := ⟨83, [.c 6 true 2, .t 7],
 (.seq (.region [⟨some 5, .box (.t 2), none⟩, ⟨some 6, .alloc [.v (.int .i64 0), .v (.int .u64 0)], none⟩, ⟨some 7, .mv (.k (.int .i64 0)), none⟩])
 (.seq (.region [⟨some 18, .mv (.t 0), none⟩, ⟨some 19, .call 87 [(.t 18)], none⟩, ⟨some 17, .mv (.t 19), none⟩, ⟨some 20, .ext (.t 17) 0, none⟩, ⟨some 21, .ext (.t 17) 1, none⟩, ⟨some 8, .mv (.t 20), none⟩, ⟨some 9, .mv (.t 21), none⟩])
 (.seq (.block 0
 (.seq (.region [⟨some 23, .mv (.t 9), none⟩, ⟨some 24, .bin .neq (.t 23) (.k (.int .i64 0)), none⟩, ⟨some 22, .mv (.t 24), none⟩])
 (.cond (.t 22)
 (.seq (.region [⟨some 25, .build [.v (.int .i64 0), .v (.int .u64 0)] [], none⟩, ⟨some 26, .mv (.t 9), none⟩, ⟨none, .store 2 (.t 6) (.t 25) 6, none⟩, ⟨some 7, .mv (.t 26), none⟩])
 .ret)
 (.seq (.region [⟨some 28, .mv (.t 1), none⟩, ⟨some 29, .len (.t 28), none⟩, ⟨some 30, .mv (.t 8), none⟩, ⟨some 31, .bin .mul (.k (.int .i64 2)) (.t 30), none⟩, ⟨some 32, .bin .neq (.t 29) (.t 31), none⟩, ⟨some 27, .mv (.t 32), none⟩])
 (.cond (.t 27)
 (.seq (.region [⟨some 33, .build [.v (.int .i64 0), .v (.int .u64 0)] [], none⟩, ⟨none, .store 2 (.t 6) (.t 33) 6, none⟩, ⟨some 7, .mv (.k (.int .i64 4)), none⟩])
 .ret)
 .skip)))))
 (.seq (.region [⟨some 35, .mv (.t 1), none⟩, ⟨some 36, .mv (.t 8), none⟩, ⟨some 37, .sl (.t 35) none (some (.t 36)), none⟩, ⟨some 38, .call 72 [(.t 37)], none⟩, ⟨some 34, .mv (.t 38), none⟩, ⟨some 39, .ext (.t 34) 0, none⟩, ⟨some 40, .ext (.t 34) 1, none⟩, ⟨some 10, .alloc [.v (.int .i64 0), .v (.int .u64 0)], none⟩, ⟨none, .store 2 (.t 10) (.t 39) 10, none⟩, ⟨some 11, .mv (.t 40), none⟩])
 (.seq (.region [⟨some 42, .mv (.t 1), none⟩, ⟨some 43, .mv (.t 8), none⟩, ⟨some 44, .sl (.t 42) (some (.t 43)) none, none⟩, ⟨some 45, .call 72 [(.t 44)], none⟩, ⟨some 41, .mv (.t 45), none⟩, ⟨some 46, .ext (.t 41) 0, none⟩, ⟨some 47, .ext (.t 41) 1, none⟩, ⟨some 12, .alloc [.v (.int .i64 0), .v (.int .u64 0)], none⟩, ⟨none, .store 2 (.t 12) (.t 46) 12, none⟩, ⟨some 13, .mv (.t 47), none⟩])
 (.seq (.region [⟨some 49, .load true 2 (.t 12) (some 12), none⟩, ⟨some 50, .mv (.t 8), none⟩, ⟨some 51, .call 91 [(.t 49), (.t 50)], none⟩, ⟨some 48, .mv (.t 51), none⟩, ⟨some 52, .ext (.t 48) 0, none⟩, ⟨some 53, .ext (.t 48) 1, none⟩, ⟨some 14, .mv (.t 52), none⟩, ⟨some 9, .mv (.t 53), none⟩])
 (.seq (.seq (.region [⟨some 54, .mv (.t 9), none⟩, ⟨some 55, .bin .neq (.t 54) (.k (.int .i64 0)), none⟩])
 (.cond (.t 55)
 (.seq (.region [⟨some 56, .build [.v (.int .i64 0), .v (.int .u64 0)] [], none⟩, ⟨some 57, .mv (.t 9), none⟩, ⟨none, .store 2 (.t 6) (.t 56) 6, none⟩, ⟨some 7, .mv (.t 57), none⟩])
 .ret)
 .skip))
 (.seq (.seq (.region [⟨some 58, .mv (.t 8), none⟩, ⟨some 59, .bin .eql (.t 58) (.k (.int .i64 8)), none⟩])
 (.cond (.t 59)
 (.region [⟨some 60, .fld 1 (.t 10), none⟩, ⟨some 61, .load false 1 (.t 60) (some 10), none⟩, ⟨some 62, .cvt .i64 (.t 61), none⟩, ⟨some 63, .call 55 [(.t 62)], none⟩, ⟨none, .store 2 (.t 10) (.t 63) 10, none⟩])
 .skip))
 (.seq (.region [⟨some 65, .load true 2 (.t 10) (some 10), none⟩, ⟨some 66, .call 92 [(.t 65)], none⟩, ⟨some 67, .mv (.t 14), none⟩, ⟨some 68, .call 55 [(.t 67)], none⟩, ⟨some 69, .call 73 [(.t 66), (.t 68)], none⟩, ⟨some 64, .mv (.t 69), none⟩, ⟨some 70, .ext (.t 64) 0, none⟩, ⟨some 71, .ext (.t 64) 1, none⟩, ⟨some 15, .alloc [.v (.int .i64 0), .v (.int .u64 0)], none⟩, ⟨none, .store 2 (.t 15) (.t 70) 15, none⟩, ⟨some 16, .mv (.t 71), none⟩])
 (.seq (.seq (.region [⟨some 72, .mv (.t 8), none⟩, ⟨some 73, .bin .eql (.t 72) (.k (.int .i64 8)), none⟩])
 (.cond (.t 73)
 (.seq (.region [⟨some 74, .load true 2 (.t 15) (some 15), none⟩, ⟨none, .store 2 (.t 6) (.t 74) 6, none⟩, ⟨some 7, .mv (.k (.int .i64 0)), none⟩])
 .ret)
 .skip))
 (.seq (.region [⟨some 75, .load true 2 (.t 15) (some 15), none⟩, ⟨some 76, .mv (.t 8), none⟩, ⟨some 77, .call 88 [(.t 76)], none⟩, ⟨some 78, .call 92 [(.t 77)], none⟩, ⟨some 79, .load true 2 (.t 5) (some 5), none⟩, ⟨some 80, .call 75 [(.t 75), (.t 78), (.t 79)], none⟩, ⟨some 81, .ext (.t 80) 0, none⟩, ⟨some 82, .ext (.t 80) 1, none⟩, ⟨none, .store 2 (.t 6) (.t 81) 6, none⟩, ⟨some 7, .mv (.t 82), none⟩])
 .ret)))))))))))⟩
theorem ntp_Decode.chk : chkFn Try.prog Try.f44 ntp_Decode.c = true := by kernel_rfl
theorem ntp_Decode.ent : ∀ args w, (callFunc 44 args).run Try.prog w = .ok (.enter 44 args) w := enters Try.func44 (by kernel_rfl) (by kernel_rfl)

/-- epact/epactref19.FromNtp -/
def epactref19_FromNtp.c : SF := ⟨82, [.c 6 true 2, .t 7],
 (.seq (.region [⟨some 5, .box (.t 2), none⟩, ⟨some 6, .alloc [.v (.int .i64 0), .v (.int .u64 0)], none⟩, ⟨some 7, .mv (.k (.int .i64 0)), none⟩])
 (.seq (.seq (.region [⟨some 15, .mv (.t 0), none⟩, ⟨some 16, .bin .neq (.t 15) (.k (.int .i64 32)), none⟩, ⟨some 17, .mv (.t 16), none⟩, ⟨some 18, .mv (.t 0), some (17, true)⟩, ⟨some 19, .bin .neq (.t 18) (.k (.int .i64 64)), some (17, true)⟩, ⟨some 20, .pick (.t 17) (.t 19) (.k (.bool false)), none⟩, ⟨some 21, .mv (.t 20), none⟩, ⟨some 22, .mv (.t 0), some (21, true)⟩, ⟨some 23, .bin .neq (.t 22) (.k (.int .i64 128)), some (21, true)⟩, ⟨some 24, .pick (.t 21) (.t 23) (.k (.bool false)), none⟩])
 (.cond (.t 24)
 (.seq (.region [⟨some 25, .build [.v (.int .i64 0), .v (.int .u64 0)] [], none⟩, ⟨none, .store 2 (.t 6) (.t 25) 6, none⟩, ⟨some 7, .mv (.k (.int .i64 1)), none⟩])
 .ret)
 .skip))
 (.seq (.region [⟨some 26, .mv (.t 0), none⟩, ⟨some 27, .bin .quo (.t 26) (.k (.int .i64 16)), none⟩, ⟨some 8, .mv (.t 27), none⟩])
 (.seq (.seq (.region [⟨some 28, .mv (.t 1), none⟩, ⟨some 29, .len (.t 28), none⟩, ⟨some 30, .mv (.t 8), none⟩, ⟨some 31, .bin .mul (.k (.int .i64 2)) (.t 30), none⟩, ⟨some 32, .bin .neq (.t 29) (.t 31), none⟩])
 (.cond (.t 32)
 (.seq (.region [⟨some 33, .build [.v (.int .i64 0), .v (.int .u64 0)] [], none⟩, ⟨none, .store 2 (.t 6) (.t 33) 6, none⟩, ⟨some 7, .mv (.k (.int .i64 4)), none⟩])
 .ret)
 .skip))
 (.seq (.region [⟨some 35, .mv (.t 1), none⟩, ⟨some 36, .mv (.t 8), none⟩, ⟨some 37, .sl (.t 35) (some (.t 36)) none, none⟩, ⟨some 38, .call 76 [(.t 37)], none⟩, ⟨some 39, .mv (.t 8), none⟩, ⟨some 40, .call 93 [(.t 38), (.t 39)], none⟩, ⟨some 34, .mv (.t 40), none⟩, ⟨some 41, .ext (.t 34) 0, none⟩, ⟨some 42, .ext (.t 34) 1, none⟩, ⟨some 9, .mv (.t 41), none⟩, ⟨some 10, .mv (.t 42), none⟩])
 (.seq (.seq (.region [⟨some 43, .mv (.t 10), none⟩, ⟨some 44, .not (.t 43), none⟩])
 (.cond (.t 44)
 (.seq (.region [⟨some 45, .build [.v (.int .i64 0), .v (.int .u64 0)] [], none⟩, ⟨none, .store 2 (.t 6) (.t 45) 6, none⟩, ⟨some 7, .mv (.k (.int .i64 13)), none⟩])
 .ret)
 .skip))
 (.seq (.region [⟨some 46, .mv (.t 1), none⟩, ⟨some 47, .mv (.t 8), none⟩, ⟨some 48, .sl (.t 46) none (some (.t 47)), none⟩, ⟨some 49, .call 76 [(.t 48)], none⟩, ⟨some 11, .alloc [.v (.bool false), .nil .i64], none⟩, ⟨none, .store 2 (.t 11) (.t 49) 11, none⟩])
 (.seq (.seq (.region [⟨some 50, .mv (.t 8), none⟩, ⟨some 51, .bin .eql (.t 50) (.k (.int .i64 8)), none⟩, ⟨some 52, .mv (.t 51), none⟩, ⟨some 53, .load true 2 (.t 11) (some 11), some (52, true)⟩, ⟨some 54, .call 58 [(.k (.int .i64 63))], some (52, true)⟩, ⟨some 55, .call 48 [(.t 53), (.t 54)], some (52, true)⟩, ⟨some 56, .bin .geq (.t 55) (.k (.int .i64 0)), some (52, true)⟩, ⟨some 57, .pick (.t 52) (.t 56) (.k (.bool false)), none⟩])
 (.cond (.t 57)
 (.region [⟨some 58, .load true 2 (.t 11) (some 11), none⟩, ⟨some 59, .call 58 [(.k (.int .i64 64))], none⟩, ⟨some 60, .call 46 [(.t 58), (.t 59)], none⟩, ⟨none, .store 2 (.t 11) (.t 60) 11, none⟩])
 .skip))
 (.seq (.region [⟨some 61, .load true 2 (.t 11) (some 11), none⟩, ⟨some 62, .call 94 [(.t 61)], none⟩, ⟨some 63, .mv (.t 9), none⟩, ⟨some 64, .call 24 [(.t 63)], none⟩, ⟨some 65, .call 57 [(.t 62), (.t 64)], none⟩, ⟨some 12, .alloc [.v (.bool false), .nil .i64], none⟩, ⟨none, .store 2 (.t 12) (.t 65) 12, none⟩])
 (.seq (.seq (.region [⟨some 66, .mv (.t 8), none⟩, ⟨some 67, .bin .eql (.t 66) (.k (.int .i64 8)), none⟩])
 (.cond (.t 67)
 (.seq (.region [⟨some 69, .load true 2 (.t 12) (some 12), none⟩, ⟨some 70, .call 64 [(.t 69)], none⟩, ⟨some 68, .mv (.t 70), none⟩, ⟨some 71, .ext (.t 68) 0, none⟩, ⟨some 72, .ext (.t 68) 1, none⟩, ⟨some 13, .alloc [.v (.int .i64 0), .v (.int .u64 0)], none⟩, ⟨none, .store 2 (.t 13) (.t 71) 13, none⟩, ⟨some 14, .mv (.t 72), none⟩])
 (.seq (.region [⟨some 73, .load true 2 (.t 13) (some 13), none⟩, ⟨none, .store 2 (.t 6) (.t 73) 6, none⟩, ⟨some 7, .mv (.k (.int .i64 0)), none⟩])
 .ret))
 .skip))
 (.seq (.region [⟨some 74, .load true 2 (.t 12) (some 12), none⟩, ⟨some 75, .mv (.t 8), none⟩, ⟨some 76, .call 47 [(.t 75)], none⟩, ⟨some 77, .call 94 [(.t 76)], none⟩, ⟨some 78, .load true 2 (.t 5) (some 5), none⟩, ⟨some 79, .call 77 [(.t 74), (.t 77), (.t 78)], none⟩, ⟨some 80, .ext (.t 79) 0, none⟩, ⟨some 81, .ext (.t 79) 1, none⟩, ⟨none, .store 2 (.t 6) (.t 80) 6, none⟩, ⟨some 7, .mv (.t 81), none⟩])
 .ret)))))))))))⟩
theorem epactref19_FromNtp.chk : chkFn Try.prog Try.f45 epactref19_FromNtp.c = true := by kernel_rfl
theorem epactref19_FromNtp.ent : ∀ args w, (callFunc 45 args).run Try.prog w = .ok (.enter 45 args) w := enters Try.func45 (by kernel_rfl) (by kernel_rfl)

/-- epact/epactref01.Sub -/
def epactref01_Sub.c : SF := ⟨9, [.c 4 true 2],
 (.seq (.region [⟨some 2, .box (.t 0), none⟩, ⟨some 3, .box (.t 1), none⟩, ⟨some 4, .alloc [.v (.bool false), .nil .i64], none⟩])
 (.seq (.region [⟨some 5, .load true 2 (.t 2) (some 2), none⟩, ⟨some 6, .load true 2 (.t 3) (some 3), none⟩, ⟨some 7, .call 63 [(.t 6)], none⟩, ⟨some 8, .call 57 [(.t 5), (.t 7)], none⟩, ⟨none, .store 2 (.t 4) (.t 8) 4, none⟩])
 .ret))⟩
theorem epactref01_Sub.chk : chkFn Try.prog Try.f46 epactref01_Sub.c = true := by kernel_rfl
theorem epactref01_Sub.ent : ∀ args w, (callFunc 46 args).run Try.prog w = .ok (.enter 46 args) w := enters Try.func46 (by kernel_rfl) (by kernel_rfl)

/-- epact/epactref19.Power -/
def epactref19_Power.c : SF := ⟨6, [.c 2 true 2],
 (.seq (.region [⟨some 2, .alloc [.v (.bool false), .nil .i64], none⟩])
 (.seq (.region [⟨some 3, .mv (.t 0), none⟩, ⟨some 4, .bin .mul (.k (.int .i64 8)) (.t 3), none⟩, ⟨some 5, .call 58 [(.t 4)], none⟩, ⟨none, .store 2 (.t 2) (.t 5) 2, none⟩])
 .ret))⟩
theorem epactref19_Power.chk : chkFn Try.prog Try.f47 epactref19_Power.c = true := by kernel_rfl
theorem epactref19_Power.ent : ∀ args w, (callFunc 47 args).run Try.prog w = .ok (.enter 47 args) w := enters Try.func47 (by kernel_rfl) (by kernel_rfl)

/-- epact/epactref01.Cmp -/
def epactref01_Cmp.c : SF := ⟨24, [.t 4],
 (.seq (.region [⟨some 2, .box (.t 0), none⟩, ⟨some 3, .box (.t 1), none⟩, ⟨some 4, .mv (.k (.int .i64 0)), none⟩])
 (.seq (.seq (.region [⟨some 5, .fld 0 (.t 2), none⟩, ⟨some 6, .load false 1 (.t 5) (some 2), none⟩, ⟨some 7, .fld 0 (.t 3), none⟩, ⟨some 8, .load false 1 (.t 7) (some 3), none⟩, ⟨some 9, .eqb true (.t 6) (.t 8), none⟩])
 (.cond (.t 9)
 (.seq (.seq (.region [⟨some 10, .fld 0 (.t 2), none⟩, ⟨some 11, .load false 1 (.t 10) (some 2), none⟩])
 (.cond (.t 11)
 (.seq (.region [⟨some 4, .mv (.k (.int .i64 (-1))), none⟩])
 .ret)
 .skip))
 (.seq (.region [⟨some 4, .mv (.k (.int .i64 1)), none⟩])
 .ret))
 .skip))
 (.seq (.seq (.region [⟨some 12, .fld 0 (.t 2), none⟩, ⟨some 13, .load false 1 (.t 12) (some 2), none⟩])
 (.cond (.t 13)
 (.seq (.region [⟨some 14, .fld 1 (.t 3), none⟩, ⟨some 15, .load false 1 (.t 14) (some 3), none⟩, ⟨some 16, .fld 1 (.t 2), none⟩, ⟨some 17, .load false 1 (.t 16) (some 2), none⟩, ⟨some 18, .call 95 [(.t 15), (.t 17)], none⟩, ⟨some 4, .mv (.t 18), none⟩])
 .ret)
 .skip))
 (.seq (.region [⟨some 19, .fld 1 (.t 2), none⟩, ⟨some 20, .load false 1 (.t 19) (some 2), none⟩, ⟨some 21, .fld 1 (.t 3), none⟩, ⟨some 22, .load false 1 (.t 21) (some 3), none⟩, ⟨some 23, .call 95 [(.t 20), (.t 22)], none⟩, ⟨some 4, .mv (.t 23), none⟩])
 .ret))))⟩
theorem epactref01_Cmp.chk : chkFn Try.prog Try.f48 epactref01_Cmp.c = true := by kernel_rfl
theorem epactref01_Cmp.ent : ∀ args w, (callFunc 48 args).run Try.prog w = .ok (.enter 48 args) w := enters Try.func48 (by kernel_rfl) (by kernel_rfl)

/-- epact/cuc.Encode -/
def cuc_Encode.c : SF := ⟨69, [.t 6, .t 7],
 (.seq (.region [⟨some 3, .box (.t 0), none⟩, ⟨some 6, .mv (.nil .u8), none⟩, ⟨some 7, .mv (.k (.int .i64 0)), none⟩])
 (.seq (.seq (.region [⟨some 21, .mv (.t 1), none⟩, ⟨some 22, .mv (.t 2), none⟩, ⟨some 23, .call 96 [(.t 21), (.t 22)], none⟩, ⟨some 24, .not (.t 23), none⟩])
 (.cond (.t 24)
 (.seq (.region [⟨some 6, .mv (.nil .u8), none⟩, ⟨some 7, .mv (.k (.int .i64 1)), none⟩])
 .ret)
 .skip))
 (.seq (.region [⟨some 26, .load true 2 (.t 3) (some 3), none⟩, ⟨some 27, .mv (.t 1), none⟩, ⟨some 28, .call 97 [(.t 27)], none⟩, ⟨some 29, .call 67 [(.t 26), (.t 28)], none⟩, ⟨some 25, .mv (.t 29), none⟩, ⟨some 30, .ext (.t 25) 0, none⟩, ⟨some 31, .ext (.t 25) 1, none⟩, ⟨some 8, .alloc [.v (.int .i64 0), .v (.int .u64 0)], none⟩, ⟨none, .store 2 (.t 8) (.t 30) 8, none⟩, ⟨some 9, .mv (.t 31), none⟩])
 (.seq (.region [⟨some 33, .load true 2 (.t 8) (some 8), none⟩, ⟨some 34, .call 55 [(.k (.int .i64 1000000000000000000))], none⟩, ⟨some 35, .call 54 [(.t 33), (.t 34)], none⟩, ⟨some 32, .mv (.t 35), none⟩, ⟨some 36, .ext (.t 32) 0, none⟩, ⟨some 37, .ext (.t 32) 1, none⟩, ⟨some 38, .ext (.t 32) 2, none⟩, ⟨some 10, .alloc [.v (.int .i64 0), .v (.int .u64 0)], none⟩, ⟨some 11, .alloc [.v (.int .i64 0), .v (.int .u64 0)], none⟩, ⟨none, .store 2 (.t 10) (.t 36) 10, none⟩, ⟨none, .store 2 (.t 11) (.t 37) 11, none⟩, ⟨some 12, .mv (.t 38), none⟩])
 (.seq (.region [⟨some 40, .load true 2 (.t 11) (some 11), none⟩, ⟨some 41, .call 56 [(.t 40)], none⟩, ⟨some 39, .mv (.t 41), none⟩, ⟨some 42, .ext (.t 39) 0, none⟩, ⟨some 43, .ext (.t 39) 1, none⟩, ⟨some 13, .mv (.t 42), none⟩, ⟨some 14, .mv (.t 43), none⟩])
 (.seq (.region [⟨some 45, .mv (.t 13), none⟩, ⟨some 46, .mv (.t 2), none⟩, ⟨some 47, .call 89 [(.t 45), (.t 46)], none⟩, ⟨some 44, .mv (.t 47), none⟩, ⟨some 48, .ext (.t 44) 0, none⟩, ⟨some 49, .ext (.t 44) 1, none⟩, ⟨some 15, .alloc [.v (.int .i64 0), .v (.int .u64 0)], none⟩, ⟨none, .store 2 (.t 15) (.t 48) 15, none⟩, ⟨some 16, .mv (.t 49), none⟩])
 (.seq (.region [⟨some 51, .load true 2 (.t 10) (some 10), none⟩, ⟨some 52, .mv (.t 1), none⟩, ⟨some 53, .call 68 [(.t 51), (.t 52)], none⟩, ⟨some 50, .mv (.t 53), none⟩, ⟨some 54, .ext (.t 50) 0, none⟩, ⟨some 55, .ext (.t 50) 1, none⟩, ⟨some 17, .mv (.t 54), none⟩, ⟨some 18, .mv (.t 55), none⟩])
 (.seq (.region [⟨some 57, .load true 2 (.t 15) (some 15), none⟩, ⟨some 58, .mv (.t 2), none⟩, ⟨some 59, .call 68 [(.t 57), (.t 58)], none⟩, ⟨some 56, .mv (.t 59), none⟩, ⟨some 60, .ext (.t 56) 0, none⟩, ⟨some 61, .ext (.t 56) 1, none⟩, ⟨some 19, .mv (.t 60), none⟩, ⟨some 20, .mv (.t 61), none⟩])
 (.seq (.region [⟨some 62, .mv (.t 1), none⟩, ⟨some 63, .mv (.t 2), none⟩, ⟨some 64, .call 98 [(.t 62), (.t 63)], none⟩, ⟨some 65, .mv (.t 17), none⟩, ⟨some 66, .mv (.t 19), none⟩, ⟨some 67, .bldS ⟨41, 1, none⟩ [.nil .u8, .nil .u8, .nil .u8] 3 [(0, 1, (.t 64)), (1, 1, (.t 65)), (2, 1, (.t 66))], none⟩, ⟨some 68, .callR 69 [(.t 67)], none⟩, ⟨some 6, .mv (.t 68), none⟩, ⟨some 7, .mv (.k (.int .i64 0)), none⟩])
 .ret)))))))))⟩
theorem cuc_Encode.chk : chkFn Try.prog Try.f49 cuc_Encode.c = true := by kernel_rfl
theorem cuc_Encode.ent : ∀ args w, (callFunc 49 args).run Try.prog w = .ok (.enter 49 args) w := enters Try.func49 (by kernel_rfl) (by kernel_rfl)

/-- epact/epactref19.Cuc -/
def epactref19_Cuc.c : SF := ⟨44, [.t 6, .t 7],
 (.seq (.region [⟨some 3, .box (.t 0), none⟩, ⟨some 6, .mv (.nil .u8), none⟩, ⟨some 7, .mv (.k (.int .i64 0)), none⟩])
 (.seq (.seq (.region [⟨some 10, .mv (.t 1), none⟩, ⟨some 11, .bin .lss (.t 10) (.k (.int .i64 1)), none⟩, ⟨some 12, .mv (.t 11), none⟩, ⟨some 13, .mv (.t 1), some (12, false)⟩, ⟨some 14, .bin .gtr (.t 13) (.k (.int .i64 7)), some (12, false)⟩, ⟨some 15, .pick (.t 12) (.k (.bool true)) (.t 14), none⟩, ⟨some 16, .mv (.t 15), none⟩, ⟨some 17, .mv (.t 2), some (16, false)⟩, ⟨some 18, .bin .lss (.t 17) (.k (.int .i64 0)), some (16, false)⟩, ⟨some 19, .pick (.t 16) (.k (.bool true)) (.t 18), none⟩, ⟨some 20, .mv (.t 19), none⟩, ⟨some 21, .mv (.t 2), some (20, false)⟩, ⟨some 22, .bin .gtr (.t 21) (.k (.int .i64 10)), some (20, false)⟩, ⟨some 23, .pick (.t 20) (.k (.bool true)) (.t 22), none⟩])
 (.cond (.t 23)
 (.seq (.region [⟨some 6, .mv (.nil .u8), none⟩, ⟨some 7, .mv (.k (.int .i64 1)), none⟩])
 .ret)
 .skip))
 (.seq (.region [⟨some 25, .load true 2 (.t 3) (some 3), none⟩, ⟨some 26, .call 21 [(.t 25)], none⟩, ⟨some 24, .mv (.t 26), none⟩, ⟨some 27, .ext (.t 24) 0, none⟩, ⟨some 28, .ext (.t 24) 1, none⟩, ⟨some 8, .alloc [.v (.bool false), .nil .i64], none⟩, ⟨none, .store 2 (.t 8) (.t 27) 8, none⟩, ⟨some 9, .mv (.t 28), none⟩])
 (.seq (.region [⟨some 29, .mv (.t 1), none⟩, ⟨some 30, .mv (.t 2), none⟩, ⟨some 31, .call 99 [(.t 29), (.t 30)], none⟩, ⟨some 32, .load true 2 (.t 8) (some 8), none⟩, ⟨some 33, .mv (.t 1), none⟩, ⟨some 34, .call 84 [(.t 32), (.t 33)], none⟩, ⟨some 35, .mv (.t 1), none⟩, ⟨some 36, .call 71 [(.t 34), (.t 35)], none⟩, ⟨some 37, .call 70 [(.t 31), (.t 36)], none⟩, ⟨some 38, .mv (.t 9), none⟩, ⟨some 39, .mv (.t 2), none⟩, ⟨some 40, .call 90 [(.t 38), (.t 39)], none⟩, ⟨some 41, .mv (.t 2), none⟩, ⟨some 42, .call 71 [(.t 40), (.t 41)], none⟩, ⟨some 43, .call 70 [(.t 37), (.t 42)], none⟩, ⟨some 6, .mv (.t 43), none⟩, ⟨some 7, .mv (.k (.int .i64 0)), none⟩])
 .ret))))⟩
theorem epactref19_Cuc.chk : chkFn Try.prog Try.f50 epactref19_Cuc.c = true := by kernel_rfl
theorem epactref19_Cuc.ent : ∀ args w, (callFunc 50 args).run Try.prog w = .ok (.enter 50 args) w := enters Try.func50 (by kernel_rfl) (by kernel_rfl)

/-- epact/epactlaw22.answers -/
def epactlaw22_answers.c : SF := ⟨44, [.t 0],
 (.seq (.region [⟨some 0, .mv (.k (.bool false)), none⟩])
 (.seq (.region [⟨some 8, .call 55 [(.k (.int .i64 1500000000000000000))], none⟩, ⟨some 9, .call 49 [(.t 8), (.k (.int .i64 4)), (.k (.int .i64 1))], none⟩, ⟨some 7, .mv (.t 9), none⟩, ⟨some 10, .ext (.t 7) 0, none⟩, ⟨some 11, .ext (.t 7) 1, none⟩, ⟨some 1, .mv (.t 10), none⟩, ⟨some 2, .mv (.t 11), none⟩])
 (.seq (.region [⟨some 13, .mv (.t 1), none⟩, ⟨some 14, .call 55 [(.k (.int .i64 0))], none⟩, ⟨some 15, .call 52 [(.t 13), (.t 14)], none⟩, ⟨some 12, .mv (.t 15), none⟩, ⟨some 16, .ext (.t 12) 0, none⟩, ⟨some 17, .ext (.t 12) 1, none⟩, ⟨some 18, .ext (.t 12) 2, none⟩, ⟨some 19, .ext (.t 12) 3, none⟩, ⟨some 3, .alloc [.v (.int .i64 0), .v (.int .u64 0)], none⟩, ⟨none, .store 2 (.t 3) (.t 16) 3, none⟩, ⟨some 4, .mv (.t 17), none⟩, ⟨some 5, .mv (.t 18), none⟩, ⟨some 6, .mv (.t 19), none⟩])
 (.seq (.region [⟨some 20, .mv (.t 2), none⟩, ⟨some 21, .bin .eql (.t 20) (.k (.int .i64 0)), none⟩, ⟨some 22, .mv (.t 21), none⟩, ⟨some 23, .mv (.t 1), some (22, true)⟩, ⟨some 24, .str (.t 23), some (22, true)⟩, ⟨some 25, .eqt false (.t 24) (.k (.string ⟨#[29, 0, 0, 0, 1, 128]⟩)), some (22, true)⟩, ⟨some 26, .pick (.t 22) (.t 25) (.k (.bool false)), none⟩, ⟨some 27, .mv (.t 26), none⟩, ⟨some 28, .mv (.t 6), some (27, true)⟩, ⟨some 29, .bin .eql (.t 28) (.k (.int .i64 0)), some (27, true)⟩, ⟨some 30, .pick (.t 27) (.t 29) (.k (.bool false)), none⟩, ⟨some 31, .mv (.t 30), none⟩, ⟨some 32, .load true 2 (.t 3) (some 3), some (31, true)⟩, ⟨some 33, .call 55 [(.k (.int .i64 1500000000000000000))], some (31, true)⟩, ⟨some 34, .eqs false [.i64, .u64] (.t 32) (.t 33), some (31, true)⟩, ⟨some 35, .pick (.t 31) (.t 34) (.k (.bool false)), none⟩, ⟨some 36, .mv (.t 35), none⟩, ⟨some 37, .mv (.t 4), some (36, true)⟩, ⟨some 38, .bin .eql (.t 37) (.k (.int .i64 4)), some (36, true)⟩, ⟨some 39, .pick (.t 36) (.t 38) (.k (.bool false)), none⟩, ⟨some 40, .mv (.t 39), none⟩, ⟨some 41, .mv (.t 5), some (40, true)⟩, ⟨some 42, .bin .eql (.t 41) (.k (.int .i64 1)), some (40, true)⟩, ⟨some 43, .pick (.t 40) (.t 42) (.k (.bool false)), none⟩, ⟨some 0, .mv (.t 43), none⟩])
 .ret))))⟩
theorem epactlaw22_answers.chk : chkFn Try.prog Try.f51 epactlaw22_answers.c = true := by kernel_rfl
theorem epactlaw22_answers.ent : ∀ args w, (callFunc 51 args).run Try.prog w = .ok (.enter 51 args) w := enters Try.func51 (by kernel_rfl) (by kernel_rfl)

/-- epact/cuc.Decode -/
def cuc_Decode.c : SF := ⟨92, [.c 4 true 2, .t 5, .t 6, .t 7],
 (.seq (.region [⟨some 3, .box (.t 1), none⟩, ⟨some 4, .alloc [.v (.int .i64 0), .v (.int .u64 0)], none⟩, ⟨some 5, .mv (.k (.int .i64 0)), none⟩, ⟨some 6, .mv (.k (.int .i64 0)), none⟩, ⟨some 7, .mv (.k (.int .i64 0)), none⟩])
 (.seq (.region [⟨some 18, .mv (.t 0), none⟩, ⟨some 19, .call 100 [(.t 18)], none⟩, ⟨some 17, .mv (.t 19), none⟩, ⟨some 20, .ext (.t 17) 0, none⟩, ⟨some 21, .ext (.t 17) 1, none⟩, ⟨some 22, .ext (.t 17) 2, none⟩, ⟨some 23, .ext (.t 17) 3, none⟩, ⟨some 5, .mv (.t 20), none⟩, ⟨some 6, .mv (.t 21), none⟩, ⟨some 8, .mv (.t 22), none⟩, ⟨some 9, .mv (.t 23), none⟩])
 (.seq (.seq (.region [⟨some 24, .mv (.t 9), none⟩, ⟨some 25, .not (.t 24), none⟩, ⟨some 26, .mv (.t 25), none⟩, ⟨some 27, .mv (.t 0), some (26, false)⟩, ⟨some 28, .len (.t 27), some (26, false)⟩, ⟨some 29, .mv (.t 8), some (26, false)⟩, ⟨some 30, .mv (.t 5), some (26, false)⟩, ⟨some 31, .bin .add (.t 29) (.t 30), some (26, false)⟩, ⟨some 32, .mv (.t 6), some (26, false)⟩, ⟨some 33, .bin .add (.t 31) (.t 32), some (26, false)⟩, ⟨some 34, .bin .neq (.t 28) (.t 33), some (26, false)⟩, ⟨some 35, .pick (.t 26) (.k (.bool true)) (.t 34), none⟩])
 (.cond (.t 35)
 (.seq (.region [⟨some 36, .build [.v (.int .i64 0), .v (.int .u64 0)] [], none⟩, ⟨none, .store 2 (.t 4) (.t 36) 4, none⟩, ⟨some 5, .mv (.k (.int .i64 0)), none⟩, ⟨some 6, .mv (.k (.int .i64 0)), none⟩, ⟨some 7, .mv (.k (.int .i64 4)), none⟩])
 .ret)
 .skip))
 (.seq (.region [⟨some 37, .mv (.t 0), none⟩, ⟨some 38, .mv (.t 8), none⟩, ⟨some 39, .sl (.t 37) (some (.t 38)) none, none⟩, ⟨some 0, .mv (.t 39), none⟩])
 (.seq (.region [⟨some 41, .mv (.t 0), none⟩, ⟨some 42, .mv (.t 5), none⟩, ⟨some 43, .sl (.t 41) none (some (.t 42)), none⟩, ⟨some 44, .call 72 [(.t 43)], none⟩, ⟨some 40, .mv (.t 44), none⟩, ⟨some 45, .ext (.t 40) 0, none⟩, ⟨some 46, .ext (.t 40) 1, none⟩, ⟨some 10, .alloc [.v (.int .i64 0), .v (.int .u64 0)], none⟩, ⟨none, .store 2 (.t 10) (.t 45) 10, none⟩, ⟨some 11, .mv (.t 46), none⟩])
 (.seq (.region [⟨some 48, .mv (.t 0), none⟩, ⟨some 49, .mv (.t 5), none⟩, ⟨some 50, .sl (.t 48) (some (.t 49)) none, none⟩, ⟨some 51, .call 72 [(.t 50)], none⟩, ⟨some 47, .mv (.t 51), none⟩, ⟨some 52, .ext (.t 47) 0, none⟩, ⟨some 53, .ext (.t 47) 1, none⟩, ⟨some 12, .alloc [.v (.int .i64 0), .v (.int .u64 0)], none⟩, ⟨none, .store 2 (.t 12) (.t 52) 12, none⟩, ⟨some 13, .mv (.t 53), none⟩])
 (.seq (.region [⟨some 55, .load true 2 (.t 12) (some 12), none⟩, ⟨some 56, .mv (.t 6), none⟩, ⟨some 57, .call 91 [(.t 55), (.t 56)], none⟩, ⟨some 54, .mv (.t 57), none⟩, ⟨some 58, .ext (.t 54) 0, none⟩, ⟨some 59, .ext (.t 54) 1, none⟩, ⟨some 14, .mv (.t 58), none⟩, ⟨some 7, .mv (.t 59), none⟩])
 (.seq (.seq (.region [⟨some 60, .mv (.t 7), none⟩, ⟨some 61, .bin .neq (.t 60) (.k (.int .i64 0)), none⟩])
 (.cond (.t 61)
 (.seq (.region [⟨some 62, .build [.v (.int .i64 0), .v (.int .u64 0)] [], none⟩, ⟨some 63, .mv (.t 7), none⟩, ⟨none, .store 2 (.t 4) (.t 62) 4, none⟩, ⟨some 5, .mv (.k (.int .i64 0)), none⟩, ⟨some 6, .mv (.k (.int .i64 0)), none⟩, ⟨some 7, .mv (.t 63), none⟩])
 .ret)
 .skip))
 (.seq (.region [⟨some 65, .load true 2 (.t 10) (some 10), none⟩, ⟨some 66, .call 55 [(.k (.int .i64 1000000000000000000))], none⟩, ⟨some 67, .call 65 [(.t 65), (.t 66)], none⟩, ⟨some 64, .mv (.t 67), none⟩, ⟨some 68, .ext (.t 64) 0, none⟩, ⟨some 69, .ext (.t 64) 1, none⟩, ⟨some 15, .alloc [.v (.int .i64 0), .v (.int .u64 0)], none⟩, ⟨none, .store 2 (.t 15) (.t 68) 15, none⟩, ⟨some 16, .mv (.t 69), none⟩])
 (.seq (.region [⟨some 71, .load true 2 (.t 15) (some 15), none⟩, ⟨some 72, .mv (.t 14), none⟩, ⟨some 73, .call 55 [(.t 72)], none⟩, ⟨some 74, .call 73 [(.t 71), (.t 73)], none⟩, ⟨some 70, .mv (.t 74), none⟩, ⟨some 75, .ext (.t 70) 0, none⟩, ⟨some 76, .ext (.t 70) 1, none⟩, ⟨none, .store 2 (.t 15) (.t 75) 15, none⟩])
 (.seq (.region [⟨some 78, .load true 2 (.t 15) (some 15), none⟩, ⟨some 79, .mv (.t 5), none⟩, ⟨some 80, .call 97 [(.t 79)], none⟩, ⟨some 81, .load true 2 (.t 3) (some 3), none⟩, ⟨some 82, .call 75 [(.t 78), (.t 80), (.t 81)], none⟩, ⟨some 77, .mv (.t 82), none⟩, ⟨some 83, .ext (.t 77) 0, none⟩, ⟨some 84, .ext (.t 77) 1, none⟩, ⟨none, .store 2 (.t 4) (.t 83) 4, none⟩, ⟨some 7, .mv (.t 84), none⟩])
 (.seq (.seq (.region [⟨some 85, .mv (.t 7), none⟩, ⟨some 86, .bin .neq (.t 85) (.k (.int .i64 0)), none⟩])
 (.cond (.t 86)
 (.seq (.region [⟨some 87, .build [.v (.int .i64 0), .v (.int .u64 0)] [], none⟩, ⟨some 88, .mv (.t 7), none⟩, ⟨none, .store 2 (.t 4) (.t 87) 4, none⟩, ⟨some 5, .mv (.k (.int .i64 0)), none⟩, ⟨some 6, .mv (.k (.int .i64 0)), none⟩, ⟨some 7, .mv (.t 88), none⟩])
 .ret)
 .skip))
 (.seq (.region [⟨some 89, .load true 2 (.t 4) (some 4), none⟩, ⟨some 90, .mv (.t 5), none⟩, ⟨some 91, .mv (.t 6), none⟩, ⟨none, .store 2 (.t 4) (.t 89) 4, none⟩, ⟨some 5, .mv (.t 90), none⟩, ⟨some 6, .mv (.t 91), none⟩, ⟨some 7, .mv (.k (.int .i64 0)), none⟩])
 .ret)))))))))))))⟩
theorem cuc_Decode.chk : chkFn Try.prog Try.f52 cuc_Decode.c = true := by kernel_rfl
theorem cuc_Decode.ent : ∀ args w, (callFunc 52 args).run Try.prog w = .ok (.enter 52 args) w := enters Try.func52 (by kernel_rfl) (by kernel_rfl)

/-- epact/epactref19.FromCuc -/
def epactref19_FromCuc.l1 : SC :=
 (.forget [14] (.seq (.seq (.region [⟨some 20, .mv (.t 9), none⟩, ⟨some 21, .bin .leq (.t 20) (.k (.int .i64 10)), none⟩])
 (.cond (.t 21)
 .skip
 (.exit 2)))
 (.seq (.block 3
 (.seq (.region [⟨some 24, .mv (.t 8), none⟩, ⟨some 25, .mv (.t 9), none⟩, ⟨some 26, .call 99 [(.t 24), (.t 25)], none⟩, ⟨some 10, .mv (.t 26), none⟩])
 (.seq (.seq (.region [⟨some 27, .mv (.t 0), none⟩, ⟨some 28, .len (.t 27), none⟩, ⟨some 29, .mv (.t 10), none⟩, ⟨some 30, .len (.t 29), none⟩, ⟨some 31, .mv (.t 8), none⟩, ⟨some 32, .bin .add (.t 30) (.t 31), none⟩, ⟨some 33, .mv (.t 9), none⟩, ⟨some 34, .bin .add (.t 32) (.t 33), none⟩, ⟨some 35, .bin .neq (.t 28) (.t 34), none⟩, ⟨some 36, .mv (.t 35), none⟩, ⟨some 37, .mv (.t 0), some (36, false)⟩, ⟨some 38, .mv (.t 10), some (36, false)⟩, ⟨some 39, .len (.t 38), some (36, false)⟩, ⟨some 40, .sl (.t 37) none (some (.t 39)), some (36, false)⟩, ⟨some 41, .mv (.t 10), some (36, false)⟩, ⟨some 42, .call 30 [(.t 40), (.t 41)], some (36, false)⟩, ⟨some 43, .not (.t 42), some (36, false)⟩, ⟨some 44, .pick (.t 36) (.k (.bool true)) (.t 43), none⟩])
 (.cond (.t 44)
 (.exit 3)
 .skip))
 (.seq (.region [⟨some 45, .mv (.t 0), none⟩, ⟨some 46, .mv (.t 10), none⟩, ⟨some 47, .len (.t 46), none⟩, ⟨some 48, .sl (.t 45) (some (.t 47)) none, none⟩, ⟨some 11, .mv (.t 48), none⟩])
 (.seq (.region [⟨some 50, .mv (.t 11), none⟩, ⟨some 51, .mv (.t 8), none⟩, ⟨some 52, .sl (.t 50) (some (.t 51)) none, none⟩, ⟨some 53, .call 76 [(.t 52)], none⟩, ⟨some 54, .mv (.t 9), none⟩, ⟨some 55, .call 93 [(.t 53), (.t 54)], none⟩, ⟨some 49, .mv (.t 55), none⟩, ⟨some 56, .ext (.t 49) 0, none⟩, ⟨some 57, .ext (.t 49) 1, none⟩, ⟨some 12, .mv (.t 56), none⟩, ⟨some 13, .mv (.t 57), none⟩])
 (.seq (.seq (.region [⟨some 58, .mv (.t 13), none⟩, ⟨some 59, .not (.t 58), none⟩])
 (.cond (.t 59)
 (.seq (.region [⟨some 60, .build [.v (.int .i64 0), .v (.int .u64 0)] [], none⟩, ⟨none, .store 2 (.t 4) (.t 60) 4, none⟩, ⟨some 5, .mv (.k (.int .i64 0)), none⟩, ⟨some 6, .mv (.k (.int .i64 0)), none⟩, ⟨some 7, .mv (.k (.int .i64 13)), none⟩])
 .ret)
 .skip))
 (.seq (.region [⟨some 62, .mv (.t 11), none⟩, ⟨some 63, .mv (.t 8), none⟩, ⟨some 64, .sl (.t 62) none (some (.t 63)), none⟩, ⟨some 65, .call 76 [(.t 64)], none⟩, ⟨some 66, .call 94 [(.t 65)], none⟩, ⟨some 67, .mv (.t 12), none⟩, ⟨some 68, .call 24 [(.t 67)], none⟩, ⟨some 69, .call 57 [(.t 66), (.t 68)], none⟩, ⟨some 70, .mv (.t 8), none⟩, ⟨some 71, .call 47 [(.t 70)], none⟩, ⟨some 72, .call 94 [(.t 71)], none⟩, ⟨some 73, .load true 2 (.t 3) (some 3), none⟩, ⟨some 74, .call 77 [(.t 69), (.t 72), (.t 73)], none⟩, ⟨some 61, .mv (.t 74), none⟩, ⟨some 75, .ext (.t 61) 0, none⟩, ⟨some 76, .ext (.t 61) 1, none⟩, ⟨some 14, .alloc [.v (.int .i64 0), .v (.int .u64 0)], none⟩, ⟨none, .store 2 (.t 14) (.t 75) 14, none⟩, ⟨some 15, .mv (.t 76), none⟩])
 (.seq (.seq (.region [⟨some 77, .mv (.t 15), none⟩, ⟨some 78, .bin .neq (.t 77) (.k (.int .i64 0)), none⟩])
 (.cond (.t 78)
 (.seq (.region [⟨some 79, .build [.v (.int .i64 0), .v (.int .u64 0)] [], none⟩, ⟨some 80, .mv (.t 15), none⟩, ⟨none, .store 2 (.t 4) (.t 79) 4, none⟩, ⟨some 5, .mv (.k (.int .i64 0)), none⟩, ⟨some 6, .mv (.k (.int .i64 0)), none⟩, ⟨some 7, .mv (.t 80), none⟩])
 .ret)
 .skip))
 (.seq (.region [⟨some 81, .load true 2 (.t 14) (some 14), none⟩, ⟨some 82, .mv (.t 8), none⟩, ⟨some 83, .mv (.t 9), none⟩, ⟨none, .store 2 (.t 4) (.t 81) 4, none⟩, ⟨some 5, .mv (.t 82), none⟩, ⟨some 6, .mv (.t 83), none⟩, ⟨some 7, .mv (.k (.int .i64 0)), none⟩])
 .ret)))))))))
 (.region [⟨some 22, .mv (.t 9), none⟩, ⟨some 23, .bin .add (.t 22) (.k (.int .i64 1)), none⟩, ⟨some 9, .mv (.t 23), none⟩]))))
def epactref19_FromCuc.l2 : SC :=
 (.forget [14] (.seq (.seq (.region [⟨some 16, .mv (.t 8), none⟩, ⟨some 17, .bin .leq (.t 16) (.k (.int .i64 7)), none⟩])
 (.cond (.t 17)
 .skip
 (.exit 0)))
 (.seq (.block 1
 (.seq (.region [⟨some 9, .mv (.k (.int .i64 0)), none⟩])
 (.block 2
 (.loop epactref19_FromCuc.l1))))
 (.region [⟨some 18, .mv (.t 8), none⟩, ⟨some 19, .bin .add (.t 18) (.k (.int .i64 1)), none⟩, ⟨some 8, .mv (.t 19), none⟩]))))
def epactref19_FromCuc.c : SF := ⟨85, [.c 4 true 2, .t 5, .t 6, .t 7],
 (.seq (.region [⟨some 3, .box (.t 1), none⟩, ⟨some 4, .alloc [.v (.int .i64 0), .v (.int .u64 0)], none⟩, ⟨some 5, .mv (.k (.int .i64 0)), none⟩, ⟨some 6, .mv (.k (.int .i64 0)), none⟩, ⟨some 7, .mv (.k (.int .i64 0)), none⟩])
 (.seq (.seq (.region [⟨some 8, .mv (.k (.int .i64 1)), none⟩])
 (.block 0
 (.loop epactref19_FromCuc.l2)))
 (.seq (.region [⟨some 84, .build [.v (.int .i64 0), .v (.int .u64 0)] [], none⟩, ⟨none, .store 2 (.t 4) (.t 84) 4, none⟩, ⟨some 5, .mv (.k (.int .i64 0)), none⟩, ⟨some 6, .mv (.k (.int .i64 0)), none⟩, ⟨some 7, .mv (.k (.int .i64 4)), none⟩])
 .ret)))⟩
theorem epactref19_FromCuc.chk : chkFn Try.prog Try.f53 epactref19_FromCuc.c = true := by kernel_rfl
theorem epactref19_FromCuc.ent : ∀ args w, (callFunc 53 args).run Try.prog w = .ok (.enter 53 args) w := enters Try.func53 (by kernel_rfl) (by kernel_rfl)

/-- epact/wide.Div -/
def wide_Div.c : SF := ⟨14, [.c 4 true 2, .c 5 true 2, .t 6],
 (.seq (.region [⟨some 2, .box (.t 0), none⟩, ⟨some 3, .box (.t 1), none⟩, ⟨some 4, .alloc [.v (.int .i64 0), .v (.int .u64 0)], none⟩, ⟨some 5, .alloc [.v (.int .i64 0), .v (.int .u64 0)], none⟩, ⟨some 6, .mv (.k (.int .i64 0)), none⟩])
 (.seq (.region [⟨some 7, .load true 2 (.t 2) (some 2), none⟩, ⟨some 8, .call 55 [(.k (.int .i64 1))], none⟩, ⟨some 9, .load true 2 (.t 3) (some 3), none⟩, ⟨some 10, .call 101 [(.t 7), (.t 8), (.t 9)], none⟩, ⟨some 11, .ext (.t 10) 0, none⟩, ⟨some 12, .ext (.t 10) 1, none⟩, ⟨some 13, .ext (.t 10) 2, none⟩, ⟨none, .store 2 (.t 4) (.t 11) 4, none⟩, ⟨none, .store 2 (.t 5) (.t 12) 5, none⟩, ⟨some 6, .mv (.t 13), none⟩])
 .ret))⟩
theorem wide_Div.chk : chkFn Try.prog Try.f54 wide_Div.c = true := by kernel_rfl
theorem wide_Div.ent : ∀ args w, (callFunc 54 args).run Try.prog w = .ok (.enter 54 args) w := enters Try.func54 (by kernel_rfl) (by kernel_rfl)

/-- epact/wide.Of -/
def wide_Of.c : SF := ⟨8, [.c 2 true 2],
 (.seq (.region [⟨some 2, .alloc [.v (.int .i64 0), .v (.int .u64 0)], none⟩])
 (.seq (.region [⟨some 3, .mv (.t 0), none⟩, ⟨some 4, .bin .shr (.t 3) (.k (.int .u64 63)), none⟩, ⟨some 5, .mv (.t 0), none⟩, ⟨some 6, .cvt .u64 (.t 5), none⟩, ⟨some 7, .build [.v (.int .i64 0), .v (.int .u64 0)] [(0, 1, (.t 4)), (1, 1, (.t 6))], none⟩, ⟨none, .store 2 (.t 2) (.t 7) 2, none⟩])
 .ret))⟩
theorem wide_Of.chk : chkFn Try.prog Try.f55 wide_Of.c = true := by kernel_rfl
theorem wide_Of.ent : ∀ args w, (callFunc 55 args).run Try.prog w = .ok (.enter 55 args) w := enters Try.func55 (by kernel_rfl) (by kernel_rfl)

/-- epact/wide.Int -/
def wide_Int.c : SF := ⟨13, [.t 2, .t 3],
 (.seq (.region [⟨some 1, .box (.t 0), none⟩, ⟨some 2, .mv (.k (.int .i64 0)), none⟩, ⟨some 3, .mv (.k (.int .i64 0)), none⟩])
 (.seq (.seq (.region [⟨some 5, .fld 1 (.t 1), none⟩, ⟨some 6, .load false 1 (.t 5) (some 1), none⟩, ⟨some 7, .cvt .i64 (.t 6), none⟩, ⟨some 4, .mv (.t 7), none⟩])
 (.seq (.region [⟨some 8, .mv (.t 4), none⟩, ⟨some 9, .call 55 [(.t 8)], none⟩, ⟨some 10, .load true 2 (.t 1) (some 1), none⟩, ⟨some 11, .eqs false [.i64, .u64] (.t 9) (.t 10), none⟩])
 (.cond (.t 11)
 (.seq (.region [⟨some 12, .mv (.t 4), none⟩, ⟨some 2, .mv (.t 12), none⟩, ⟨some 3, .mv (.k (.int .i64 0)), none⟩])
 .ret)
 .skip)))
 (.seq (.region [⟨some 2, .mv (.k (.int .i64 0)), none⟩, ⟨some 3, .mv (.k (.int .i64 2)), none⟩])
 .ret)))⟩
theorem wide_Int.chk : chkFn Try.prog Try.f56 wide_Int.c = true := by kernel_rfl
theorem wide_Int.ent : ∀ args w, (callFunc 56 args).run Try.prog w = .ok (.enter 56 args) w := enters Try.func56 (by kernel_rfl) (by kernel_rfl)

/-- epact/epactref01.Add -/
def epactref01_Add.c : SF := ⟨41, [.c 4 true 2],
 (.seq (.region [⟨some 2, .box (.t 0), none⟩, ⟨some 3, .box (.t 1), none⟩, ⟨some 4, .alloc [.v (.bool false), .nil .i64], none⟩])
 (.seq (.seq (.region [⟨some 6, .fld 0 (.t 2), none⟩, ⟨some 7, .load false 1 (.t 6) (some 2), none⟩, ⟨some 8, .fld 0 (.t 3), none⟩, ⟨some 9, .load false 1 (.t 8) (some 3), none⟩, ⟨some 10, .eqb false (.t 7) (.t 9), none⟩])
 (.cond (.t 10)
 (.seq (.region [⟨some 11, .fld 0 (.t 2), none⟩, ⟨some 12, .load false 1 (.t 11) (some 2), none⟩, ⟨some 13, .fld 1 (.t 2), none⟩, ⟨some 14, .load false 1 (.t 13) (some 2), none⟩, ⟨some 15, .fld 1 (.t 3), none⟩, ⟨some 16, .load false 1 (.t 15) (some 3), none⟩, ⟨some 17, .call 102 [(.t 14), (.t 16)], none⟩, ⟨some 18, .build [.v (.bool false), .nil .i64] [(0, 1, (.t 12)), (1, 1, (.t 17))], none⟩, ⟨none, .store 2 (.t 4) (.t 18) 4, none⟩])
 .ret)
 .skip))
 (.seq (.seq (.region [⟨some 19, .fld 1 (.t 2), none⟩, ⟨some 20, .load false 1 (.t 19) (some 2), none⟩, ⟨some 21, .fld 1 (.t 3), none⟩, ⟨some 22, .load false 1 (.t 21) (some 3), none⟩, ⟨some 23, .call 95 [(.t 20), (.t 22)], none⟩, ⟨some 24, .bin .lss (.t 23) (.k (.int .i64 0)), none⟩])
 (.cond (.t 24)
 (.region [⟨some 25, .load true 2 (.t 3) (some 3), none⟩, ⟨some 26, .load true 2 (.t 2) (some 2), none⟩, ⟨none, .store 2 (.t 2) (.t 25) 2, none⟩, ⟨none, .store 2 (.t 3) (.t 26) 3, none⟩])
 .skip))
 (.seq (.region [⟨some 27, .fld 1 (.t 2), none⟩, ⟨some 28, .load false 1 (.t 27) (some 2), none⟩, ⟨some 29, .fld 1 (.t 3), none⟩, ⟨some 30, .load false 1 (.t 29) (some 3), none⟩, ⟨some 31, .call 62 [(.t 28), (.t 30)], none⟩, ⟨some 5, .mv (.t 31), none⟩])
 (.seq (.region [⟨some 32, .fld 0 (.t 2), none⟩, ⟨some 33, .load false 1 (.t 32) (some 2), none⟩, ⟨some 34, .mv (.t 33), none⟩, ⟨some 35, .mv (.t 5), some (34, true)⟩, ⟨some 36, .len (.t 35), some (34, true)⟩, ⟨some 37, .bin .gtr (.t 36) (.k (.int .i64 0)), some (34, true)⟩, ⟨some 38, .pick (.t 34) (.t 37) (.k (.bool false)), none⟩, ⟨some 39, .mv (.t 5), none⟩, ⟨some 40, .build [.v (.bool false), .nil .i64] [(0, 1, (.t 38)), (1, 1, (.t 39))], none⟩, ⟨none, .store 2 (.t 4) (.t 40) 4, none⟩])
 .ret)))))⟩
theorem epactref01_Add.chk : chkFn Try.prog Try.f57 epactref01_Add.c = true := by kernel_rfl
theorem epactref01_Add.ent : ∀ args w, (callFunc 57 args).run Try.prog w = .ok (.enter 57 args) w := enters Try.func57 (by kernel_rfl) (by kernel_rfl)

/-- epact/epactref01.Pow2 -/
def epactref01_Pow2.c : SF := ⟨18, [.c 2 true 2],
 (.seq (.region [⟨some 2, .alloc [.v (.bool false), .nil .i64], none⟩])
 (.seq (.region [⟨some 4, .mv (.t 0), none⟩, ⟨some 5, .bin .quo (.t 4) (.k (.int .i64 16)), none⟩, ⟨some 6, .bin .add (.t 5) (.k (.int .i64 1)), none⟩, ⟨some 7, .mkS ⟨3, 1, some .i64⟩ (.int .i64 0) (.t 6), none⟩, ⟨some 3, .mv (.t 7), none⟩])
 (.seq (.region [⟨some 8, .mv (.t 3), none⟩, ⟨some 9, .mv (.t 0), none⟩, ⟨some 10, .bin .quo (.t 9) (.k (.int .i64 16)), none⟩, ⟨some 11, .mv (.t 0), none⟩, ⟨some 12, .bin .rem (.t 11) (.k (.int .i64 16)), none⟩, ⟨some 13, .cvt .u64 (.t 12), none⟩, ⟨some 14, .bin .shl (.k (.int .i64 1)) (.t 13), none⟩, ⟨some 15, .idx 1 (.t 8) (.t 10), none⟩, ⟨none, .store 1 (.t 15) (.t 14) 7, none⟩])
 (.seq (.region [⟨some 16, .mv (.t 3), none⟩, ⟨some 17, .build [.v (.bool false), .nil .i64] [(1, 1, (.t 16))], none⟩, ⟨none, .store 2 (.t 2) (.t 17) 2, none⟩])
 .ret))))⟩
theorem epactref01_Pow2.chk : chkFn Try.prog Try.f58 epactref01_Pow2.c = true := by kernel_rfl
theorem epactref01_Pow2.ent : ∀ args w, (callFunc 58 args).run Try.prog w = .ok (.enter 58 args) w := enters Try.func58 (by kernel_rfl) (by kernel_rfl)

/-- epact/epactref01.Word -/
def epactref01_Word.c : SF := ⟨20, [.c 2 true 2],
 (.seq (.region [⟨some 2, .alloc [.v (.bool false), .nil .i64], none⟩])
 (.seq (.region [⟨some 3, .mv (.t 0), none⟩, ⟨some 4, .bin .and (.t 3) (.k (.int .u64 65535)), none⟩, ⟨some 5, .cvt .i64 (.t 4), none⟩, ⟨some 6, .mv (.t 0), none⟩, ⟨some 7, .bin .shr (.t 6) (.k (.int .u64 16)), none⟩, ⟨some 8, .bin .and (.t 7) (.k (.int .u64 65535)), none⟩, ⟨some 9, .cvt .i64 (.t 8), none⟩, ⟨some 10, .mv (.t 0), none⟩, ⟨some 11, .bin .shr (.t 10) (.k (.int .u64 32)), none⟩, ⟨some 12, .bin .and (.t 11) (.k (.int .u64 65535)), none⟩, ⟨some 13, .cvt .i64 (.t 12), none⟩, ⟨some 14, .mv (.t 0), none⟩, ⟨some 15, .bin .shr (.t 14) (.k (.int .u64 48)), none⟩, ⟨some 16, .cvt .i64 (.t 15), none⟩, ⟨some 17, .bldS ⟨3, 1, some .i64⟩ [.v (.int .i64 0), .v (.int .i64 0), .v (.int .i64 0), .v (.int .i64 0)] 4 [(0, 1, (.t 5)), (1, 1, (.t 9)), (2, 1, (.t 13)), (3, 1, (.t 16))], none⟩, ⟨some 18, .callR 60 [(.t 17)], none⟩, ⟨some 19, .build [.v (.bool false), .nil .i64] [(1, 1, (.t 18))], none⟩, ⟨none, .store 2 (.t 2) (.t 19) 2, none⟩])
 .ret))⟩
theorem epactref01_Word.chk : chkFn Try.prog Try.f59 epactref01_Word.c = true := by kernel_rfl
theorem epactref01_Word.ent : ∀ args w, (callFunc 59 args).run Try.prog w = .ok (.enter 59 args) w := enters Try.func59 (by kernel_rfl) (by kernel_rfl)

/-- epact/epactref01.trim -/
def epactref01_trim.l1 : SC :=
 (.seq (.seq (.region [⟨some 6, .mv (.t 3), none⟩, ⟨some 7, .bin .gtr (.t 6) (.k (.int .i64 0)), none⟩, ⟨some 8, .mv (.t 7), none⟩, ⟨some 9, .mv (.t 0), some (8, true)⟩, ⟨some 10, .mv (.t 3), some (8, true)⟩, ⟨some 11, .bin .sub (.t 10) (.k (.int .i64 1)), some (8, true)⟩, ⟨some 12, .idx 1 (.t 9) (.t 11), some (8, true)⟩, ⟨some 13, .load false 1 (.t 12) none, some (8, true)⟩, ⟨some 14, .bin .eql (.t 13) (.k (.int .i64 0)), some (8, true)⟩, ⟨some 15, .pick (.t 8) (.t 14) (.k (.bool false)), none⟩])
 (.cond (.t 15)
 .skip
 (.exit 0)))
 (.block 1
 (.region [⟨some 16, .mv (.t 3), none⟩, ⟨some 17, .bin .sub (.t 16) (.k (.int .i64 1)), none⟩, ⟨some 3, .mv (.t 17), none⟩])))
def epactref01_trim.c : SF := ⟨21, [.t 2],
 (.seq (.region [⟨some 2, .mv (.nil .i64), none⟩])
 (.seq (.region [⟨some 4, .mv (.t 0), none⟩, ⟨some 5, .len (.t 4), none⟩, ⟨some 3, .mv (.t 5), none⟩])
 (.seq (.block 0
 (.loop epactref01_trim.l1))
 (.seq (.region [⟨some 18, .mv (.t 0), none⟩, ⟨some 19, .mv (.t 3), none⟩, ⟨some 20, .sl (.t 18) none (some (.t 19)), none⟩, ⟨some 2, .mv (.t 20), none⟩])
 .ret))))⟩
theorem epactref01_trim.chk : chkFn Try.prog Try.f60 epactref01_trim.c = true := by kernel_rfl
theorem epactref01_trim.ent : ∀ args w, (callFunc 60 args).run Try.prog w = .ok (.enter 60 args) w := enters Try.func60 (by kernel_rfl) (by kernel_rfl)

/-- epact/epactref01.digit -/
def epactref01_digit.l1 : SC :=
 (.seq (.seq (.region [⟨some 8, .mv (.t 5), none⟩, ⟨some 9, .mv (.t 6), none⟩, ⟨some 10, .bin .lss (.t 8) (.t 9), none⟩])
 (.cond (.t 10)
 .skip
 (.exit 0)))
 (.block 1
 (.seq (.region [⟨some 11, .mv (.t 5), none⟩, ⟨some 12, .mv (.t 6), none⟩, ⟨some 13, .bin .add (.t 11) (.t 12), none⟩, ⟨some 14, .bin .add (.t 13) (.k (.int .i64 1)), none⟩, ⟨some 15, .bin .quo (.t 14) (.k (.int .i64 2)), none⟩, ⟨some 7, .mv (.t 15), none⟩])
 (.seq (.region [⟨some 16, .mv (.t 1), none⟩, ⟨some 17, .build [.v (.bool false), .nil .i64] [(1, 1, (.t 16))], none⟩, ⟨some 18, .mv (.t 7), none⟩, ⟨some 19, .cvt .u64 (.t 18), none⟩, ⟨some 20, .call 59 [(.t 19)], none⟩, ⟨some 21, .call 33 [(.t 17), (.t 20)], none⟩, ⟨some 22, .part false 1 1 (.t 21), none⟩, ⟨some 23, .mv (.t 0), none⟩, ⟨some 24, .call 95 [(.t 22), (.t 23)], none⟩, ⟨some 25, .bin .leq (.t 24) (.k (.int .i64 0)), none⟩])
 (.cond (.t 25)
 (.region [⟨some 26, .mv (.t 7), none⟩, ⟨some 5, .mv (.t 26), none⟩])
 (.region [⟨some 27, .mv (.t 7), none⟩, ⟨some 28, .bin .sub (.t 27) (.k (.int .i64 1)), none⟩, ⟨some 6, .mv (.t 28), none⟩]))))))
def epactref01_digit.c : SF := ⟨30, [.t 4],
 (.seq (.region [⟨some 4, .mv (.k (.int .i64 0)), none⟩])
 (.seq (.region [⟨some 5, .mv (.k (.int .i64 0)), none⟩, ⟨some 6, .mv (.k (.int .i64 65535)), none⟩])
 (.seq (.block 0
 (.loop epactref01_digit.l1))
 (.seq (.region [⟨some 29, .mv (.t 5), none⟩, ⟨some 4, .mv (.t 29), none⟩])
 .ret))))⟩
theorem epactref01_digit.chk : chkFn Try.prog Try.f61 epactref01_digit.c = true := by kernel_rfl
theorem epactref01_digit.ent : ∀ args w, (callFunc 61 args).run Try.prog w = .ok (.enter 61 args) w := enters Try.func61 (by kernel_rfl) (by kernel_rfl)

/-- epact/epactref01.sub -/
def epactref01_sub.l1 : SC :=
 (.seq (.seq (.region [⟨some 9, .mv (.t 7), none⟩, ⟨some 10, .mv (.t 0), none⟩, ⟨some 11, .len (.t 10), none⟩, ⟨some 12, .bin .lss (.t 9) (.t 11), none⟩])
 (.cond (.t 12)
 .skip
 (.exit 0)))
 (.seq (.block 1
 (.seq (.region [⟨some 15, .mv (.t 0), none⟩, ⟨some 16, .mv (.t 7), none⟩, ⟨some 17, .idx 1 (.t 15) (.t 16), none⟩, ⟨some 18, .load false 1 (.t 17) none, none⟩, ⟨some 19, .mv (.t 6), none⟩, ⟨some 20, .bin .sub (.t 18) (.t 19), none⟩, ⟨some 8, .mv (.t 20), none⟩])
 (.seq (.seq (.region [⟨some 21, .mv (.t 7), none⟩, ⟨some 22, .mv (.t 1), none⟩, ⟨some 23, .len (.t 22), none⟩, ⟨some 24, .bin .lss (.t 21) (.t 23), none⟩])
 (.cond (.t 24)
 (.region [⟨some 25, .mv (.t 8), none⟩, ⟨some 26, .mv (.t 1), none⟩, ⟨some 27, .mv (.t 7), none⟩, ⟨some 28, .idx 1 (.t 26) (.t 27), none⟩, ⟨some 29, .load false 1 (.t 28) none, none⟩, ⟨some 30, .bin .sub (.t 25) (.t 29), none⟩, ⟨some 8, .mv (.t 30), none⟩])
 .skip))
 (.seq (.region [⟨some 6, .mv (.k (.int .i64 0)), none⟩])
 (.seq (.seq (.region [⟨some 31, .mv (.t 8), none⟩, ⟨some 32, .bin .lss (.t 31) (.k (.int .i64 0)), none⟩])
 (.cond (.t 32)
 (.region [⟨some 33, .mv (.t 8), none⟩, ⟨some 34, .bin .add (.t 33) (.k (.int .i64 65536)), none⟩, ⟨some 8, .mv (.t 34), none⟩, ⟨some 6, .mv (.k (.int .i64 1)), none⟩])
 .skip))
 (.region [⟨some 35, .mv (.t 5), none⟩, ⟨some 36, .mv (.t 8), none⟩, ⟨some 37, .bldS ⟨3, 1, some .i64⟩ [.v (.int .i64 0)] 1 [(0, 1, (.t 36))], none⟩, ⟨some 38, .app ⟨3, 1, some .i64⟩ (.t 35) (.t 37), none⟩, ⟨some 5, .mv (.t 38), none⟩]))))))
 (.region [⟨some 13, .mv (.t 7), none⟩, ⟨some 14, .bin .add (.t 13) (.k (.int .i64 1)), none⟩, ⟨some 7, .mv (.t 14), none⟩])))
def epactref01_sub.c : SF := ⟨41, [.t 4],
 (.seq (.region [⟨some 4, .mv (.nil .i64), none⟩])
 (.seq (.region [⟨some 5, .mv (.nil .i64), none⟩])
 (.seq (.region [⟨some 6, .mv (.k (.int .i64 0)), none⟩])
 (.seq (.seq (.region [⟨some 7, .mv (.k (.int .i64 0)), none⟩])
 (.block 0
 (.loop epactref01_sub.l1)))
 (.seq (.region [⟨some 39, .mv (.t 5), none⟩, ⟨some 40, .callR 60 [(.t 39)], none⟩, ⟨some 4, .mv (.t 40), none⟩])
 .ret)))))⟩
theorem epactref01_sub.chk : chkFn Try.prog Try.f62 epactref01_sub.c = true := by kernel_rfl
theorem epactref01_sub.ent : ∀ args w, (callFunc 62 args).run Try.prog w = .ok (.enter 62 args) w := enters Try.func62 (by kernel_rfl) (by kernel_rfl)

/-- epact/epactref01.Neg -/
def epactref01_Neg.c : SF := ⟨15, [.c 2 true 2],
 (.seq (.region [⟨some 1, .box (.t 0), none⟩, ⟨some 2, .alloc [.v (.bool false), .nil .i64], none⟩])
 (.seq (.region [⟨some 3, .fld 0 (.t 1), none⟩, ⟨some 4, .load false 1 (.t 3) (some 1), none⟩, ⟨some 5, .not (.t 4), none⟩, ⟨some 6, .mv (.t 5), none⟩, ⟨some 7, .fld 1 (.t 1), some (6, true)⟩, ⟨some 8, .load false 1 (.t 7) (some 1), some (6, true)⟩, ⟨some 9, .len (.t 8), some (6, true)⟩, ⟨some 10, .bin .gtr (.t 9) (.k (.int .i64 0)), some (6, true)⟩, ⟨some 11, .pick (.t 6) (.t 10) (.k (.bool false)), none⟩, ⟨some 12, .fld 1 (.t 1), none⟩, ⟨some 13, .load false 1 (.t 12) (some 1), none⟩, ⟨some 14, .build [.v (.bool false), .nil .i64] [(0, 1, (.t 11)), (1, 1, (.t 13))], none⟩, ⟨none, .store 2 (.t 2) (.t 14) 2, none⟩])
 .ret))⟩
theorem epactref01_Neg.chk : chkFn Try.prog Try.f63 epactref01_Neg.c = true := by kernel_rfl
theorem epactref01_Neg.ent : ∀ args w, (callFunc 63 args).run Try.prog w = .ok (.enter 63 args) w := enters Try.func63 (by kernel_rfl) (by kernel_rfl)

/-- epact/epactref01.Wide -/
def epactref01_Wide.c : SF := ⟨33, [.c 2 true 2, .t 3],
 (.seq (.region [⟨some 1, .box (.t 0), none⟩, ⟨some 2, .alloc [.v (.int .i64 0), .v (.int .u64 0)], none⟩, ⟨some 3, .mv (.k (.bool false)), none⟩])
 (.seq (.seq (.region [⟨some 5, .load true 2 (.t 1) (some 1), none⟩, ⟨some 6, .call 58 [(.k (.int .i64 127))], none⟩, ⟨some 7, .call 48 [(.t 5), (.t 6)], none⟩, ⟨some 8, .bin .geq (.t 7) (.k (.int .i64 0)), none⟩, ⟨some 9, .mv (.t 8), none⟩, ⟨some 10, .load true 2 (.t 1) (some 1), some (9, false)⟩, ⟨some 11, .call 58 [(.k (.int .i64 127))], some (9, false)⟩, ⟨some 12, .call 63 [(.t 11)], some (9, false)⟩, ⟨some 13, .call 48 [(.t 10), (.t 12)], some (9, false)⟩, ⟨some 14, .bin .lss (.t 13) (.k (.int .i64 0)), some (9, false)⟩, ⟨some 15, .pick (.t 9) (.k (.bool true)) (.t 14), none⟩])
 (.cond (.t 15)
 (.seq (.region [⟨some 16, .build [.v (.int .i64 0), .v (.int .u64 0)] [], none⟩, ⟨none, .store 2 (.t 2) (.t 16) 2, none⟩, ⟨some 3, .mv (.k (.bool false)), none⟩])
 .ret)
 .skip))
 (.seq (.region [⟨some 17, .fld 1 (.t 1), none⟩, ⟨some 18, .load false 1 (.t 17) (some 1), none⟩, ⟨some 4, .mv (.t 18), none⟩])
 (.seq (.seq (.region [⟨some 19, .fld 0 (.t 1), none⟩, ⟨some 20, .load false 1 (.t 19) (some 1), none⟩])
 (.cond (.t 20)
 (.region [⟨some 21, .call 58 [(.k (.int .i64 128))], none⟩, ⟨some 22, .fld 1 (.t 1), none⟩, ⟨some 23, .load false 1 (.t 22) (some 1), none⟩, ⟨some 24, .build [.v (.bool false), .nil .i64] [(1, 1, (.t 23))], none⟩, ⟨some 25, .call 46 [(.t 21), (.t 24)], none⟩, ⟨some 26, .part false 1 1 (.t 25), none⟩, ⟨some 4, .mv (.t 26), none⟩])
 .skip))
 (.seq (.region [⟨some 27, .mv (.t 4), none⟩, ⟨some 28, .call 103 [(.t 27), (.k (.int .i64 4))], none⟩, ⟨some 29, .cvt .i64 (.t 28), none⟩, ⟨some 30, .mv (.t 4), none⟩, ⟨some 31, .call 103 [(.t 30), (.k (.int .i64 0))], none⟩, ⟨some 32, .build [.v (.int .i64 0), .v (.int .u64 0)] [(0, 1, (.t 29)), (1, 1, (.t 31))], none⟩, ⟨none, .store 2 (.t 2) (.t 32) 2, none⟩, ⟨some 3, .mv (.k (.bool true)), none⟩])
 .ret)))))⟩
theorem epactref01_Wide.chk : chkFn Try.prog Try.f64 epactref01_Wide.c = true := by kernel_rfl
theorem epactref01_Wide.ent : ∀ args w, (callFunc 64 args).run Try.prog w = .ok (.enter 64 args) w := enters Try.func64 (by kernel_rfl) (by kernel_rfl)

/-- epact/wide.Mul -/
def wide_Mul.c : SF := ⟨31, [.c 4 true 2, .t 5],
 (.seq (.region [⟨some 2, .box (.t 0), none⟩, ⟨some 3, .box (.t 1), none⟩, ⟨some 4, .alloc [.v (.int .i64 0), .v (.int .u64 0)], none⟩, ⟨some 5, .mv (.k (.int .i64 0)), none⟩])
 (.seq (.region [⟨some 9, .load true 2 (.t 2) (some 2), none⟩, ⟨some 10, .call 105 [(.t 9)], none⟩, ⟨some 11, .load true 2 (.t 3) (some 3), none⟩, ⟨some 12, .call 105 [(.t 11)], none⟩, ⟨some 13, .call 104 [(.t 10), (.t 12)], none⟩, ⟨some 8, .mv (.t 13), none⟩, ⟨some 14, .ext (.t 8) 0, none⟩, ⟨some 15, .ext (.t 8) 1, none⟩, ⟨some 6, .alloc [.v (.int .u64 0), .v (.int .u64 0)], none⟩, ⟨some 7, .alloc [.v (.int .u64 0), .v (.int .u64 0)], none⟩, ⟨none, .store 2 (.t 6) (.t 14) 6, none⟩, ⟨none, .store 2 (.t 7) (.t 15) 7, none⟩])
 (.seq (.seq (.region [⟨some 16, .load true 2 (.t 6) (some 6), none⟩, ⟨some 17, .build [.v (.int .u64 0), .v (.int .u64 0)] [], none⟩, ⟨some 18, .eqs true [.u64, .u64] (.t 16) (.t 17), none⟩])
 (.cond (.t 18)
 (.seq (.region [⟨some 19, .build [.v (.int .i64 0), .v (.int .u64 0)] [], none⟩, ⟨none, .store 2 (.t 4) (.t 19) 4, none⟩, ⟨some 5, .mv (.k (.int .i64 2)), none⟩])
 .ret)
 .skip))
 (.seq (.region [⟨some 20, .load true 2 (.t 7) (some 7), none⟩, ⟨some 21, .fld 0 (.t 2), none⟩, ⟨some 22, .load false 1 (.t 21) (some 2), none⟩, ⟨some 23, .bin .lss (.t 22) (.k (.int .i64 0)), none⟩, ⟨some 24, .fld 0 (.t 3), none⟩, ⟨some 25, .load false 1 (.t 24) (some 3), none⟩, ⟨some 26, .bin .lss (.t 25) (.k (.int .i64 0)), none⟩, ⟨some 27, .eqb true (.t 23) (.t 26), none⟩, ⟨some 28, .call 106 [(.t 20), (.t 27)], none⟩, ⟨some 29, .ext (.t 28) 0, none⟩, ⟨some 30, .ext (.t 28) 1, none⟩, ⟨none, .store 2 (.t 4) (.t 29) 4, none⟩, ⟨some 5, .mv (.t 30), none⟩])
 .ret))))⟩
theorem wide_Mul.chk : chkFn Try.prog Try.f65 wide_Mul.c = true := by kernel_rfl
theorem wide_Mul.ent : ∀ args w, (callFunc 65 args).run Try.prog w = .ok (.enter 65 args) w := enters Try.func65 (by kernel_rfl) (by kernel_rfl)

/-- epact/gps.shapes -/
def gps_shapes.c : SF := ⟨12, [.c 2 true 3, .t 3],
 (.seq (.region [⟨some 2, .alloc [.v (.int .i64 0), .v (.int .i64 0), .v (.int .i64 0)], none⟩, ⟨some 3, .mv (.k (.int .i64 0)), none⟩])
 (.seq (.seq (.region [⟨some 4, .mv (.t 0), none⟩])
 (.block 0
 (.seq (.region [⟨some 6, .bin .eql (.t 4) (.k (.int .i64 10)), none⟩, ⟨some 5, .mv (.t 6), none⟩])
 (.cond (.t 5)
 (.seq (.region [⟨some 7, .build [.v (.int .i64 0), .v (.int .i64 0), .v (.int .i64 0)] [(0, 1, (.k (.int .i64 1024))), (1, 1, (.k (.int .i64 4))), (2, 1, (.k (.int .i64 1000000000000000)))], none⟩, ⟨none, .store 3 (.t 2) (.t 7) 2, none⟩, ⟨some 3, .mv (.k (.int .i64 0)), none⟩])
 .ret)
 (.seq (.region [⟨some 9, .bin .eql (.t 4) (.k (.int .i64 13)), none⟩, ⟨some 8, .mv (.t 9), none⟩])
 (.cond (.t 8)
 (.seq (.region [⟨some 10, .build [.v (.int .i64 0), .v (.int .i64 0), .v (.int .i64 0)] [(0, 1, (.k (.int .i64 8192))), (1, 1, (.k (.int .i64 8))), (2, 1, (.k (.int .i64 1000000000)))], none⟩, ⟨none, .store 3 (.t 2) (.t 10) 2, none⟩, ⟨some 3, .mv (.k (.int .i64 0)), none⟩])
 .ret)
 .skip))))))
 (.seq (.region [⟨some 11, .build [.v (.int .i64 0), .v (.int .i64 0), .v (.int .i64 0)] [], none⟩, ⟨none, .store 3 (.t 2) (.t 11) 2, none⟩, ⟨some 3, .mv (.k (.int .i64 1)), none⟩])
 .ret)))⟩
theorem gps_shapes.chk : chkFn Try.prog Try.f66 gps_shapes.c = true := by kernel_rfl
theorem gps_shapes.ent : ∀ args w, (callFunc 66 args).run Try.prog w = .ok (.enter 66 args) w := enters Try.func66 (by kernel_rfl) (by kernel_rfl)

/-- epact/pivot.Fold -/
def pivot_Fold.c : SF := ⟨18, [.c 4 true 2, .t 5],
 (.seq (.region [⟨some 2, .box (.t 0), none⟩, ⟨some 3, .box (.t 1), none⟩, ⟨some 4, .alloc [.v (.int .i64 0), .v (.int .u64 0)], none⟩, ⟨some 5, .mv (.k (.int .i64 0)), none⟩])
 (.seq (.region [⟨some 10, .load true 2 (.t 2) (some 2), none⟩, ⟨some 11, .load true 2 (.t 3) (some 3), none⟩, ⟨some 12, .call 54 [(.t 10), (.t 11)], none⟩, ⟨some 9, .mv (.t 12), none⟩, ⟨some 13, .ext (.t 9) 0, none⟩, ⟨some 14, .ext (.t 9) 1, none⟩, ⟨some 15, .ext (.t 9) 2, none⟩, ⟨some 6, .alloc [.v (.int .i64 0), .v (.int .u64 0)], none⟩, ⟨some 7, .alloc [.v (.int .i64 0), .v (.int .u64 0)], none⟩, ⟨none, .store 2 (.t 6) (.t 13) 6, none⟩, ⟨none, .store 2 (.t 7) (.t 14) 7, none⟩, ⟨some 8, .mv (.t 15), none⟩])
 (.seq (.region [⟨some 16, .load true 2 (.t 7) (some 7), none⟩, ⟨some 17, .mv (.t 8), none⟩, ⟨none, .store 2 (.t 4) (.t 16) 4, none⟩, ⟨some 5, .mv (.t 17), none⟩])
 .ret)))⟩
theorem pivot_Fold.chk : chkFn Try.prog Try.f67 pivot_Fold.c = true := by kernel_rfl
theorem pivot_Fold.ent : ∀ args w, (callFunc 67 args).run Try.prog w = .ok (.enter 67 args) w := enters Try.func67 (by kernel_rfl) (by kernel_rfl)

/-- epact/frac.Put -/
def frac_Put.l1 : SC :=
 (.forget [8, 9] (.seq (.seq (.region [⟨some 28, .mv (.t 7), none⟩, ⟨some 29, .bin .geq (.t 28) (.k (.int .i64 0)), none⟩])
 (.cond (.t 29)
 .skip
 (.exit 1)))
 (.seq (.block 2
 (.seq (.region [⟨some 33, .load true 2 (.t 2) (some 2), none⟩, ⟨some 34, .call 55 [(.k (.int .i64 256))], none⟩, ⟨some 35, .call 54 [(.t 33), (.t 34)], none⟩, ⟨some 32, .mv (.t 35), none⟩, ⟨some 36, .ext (.t 32) 0, none⟩, ⟨some 37, .ext (.t 32) 1, none⟩, ⟨some 38, .ext (.t 32) 2, none⟩, ⟨some 8, .alloc [.v (.int .i64 0), .v (.int .u64 0)], none⟩, ⟨some 9, .alloc [.v (.int .i64 0), .v (.int .u64 0)], none⟩, ⟨none, .store 2 (.t 8) (.t 36) 8, none⟩, ⟨none, .store 2 (.t 9) (.t 37) 9, none⟩, ⟨some 10, .mv (.t 38), none⟩])
 (.seq (.region [⟨some 39, .mv (.t 6), none⟩, ⟨some 40, .mv (.t 7), none⟩, ⟨some 41, .fld 1 (.t 9), none⟩, ⟨some 42, .load false 1 (.t 41) (some 9), none⟩, ⟨some 43, .cvt .u8 (.t 42), none⟩, ⟨some 44, .idx 1 (.t 39) (.t 40), none⟩, ⟨none, .store 1 (.t 44) (.t 43) 25, none⟩])
 (.region [⟨some 45, .load true 2 (.t 8) (some 8), none⟩, ⟨none, .store 2 (.t 2) (.t 45) 2, none⟩]))))
 (.region [⟨some 30, .mv (.t 7), none⟩, ⟨some 31, .bin .sub (.t 30) (.k (.int .i64 1)), none⟩, ⟨some 7, .mv (.t 31), none⟩]))))
def frac_Put.c : SF := ⟨47, [.t 4, .t 5],
 (.seq (.region [⟨some 2, .box (.t 0), none⟩, ⟨some 4, .mv (.nil .u8), none⟩, ⟨some 5, .mv (.k (.int .i64 0)), none⟩])
 (.seq (.block 0
 (.seq (.region [⟨some 12, .mv (.t 1), none⟩, ⟨some 13, .bin .lss (.t 12) (.k (.int .i64 0)), none⟩, ⟨some 14, .mv (.t 13), none⟩, ⟨some 15, .mv (.t 1), some (14, false)⟩, ⟨some 16, .bin .gtr (.t 15) (.k (.int .i64 15)), some (14, false)⟩, ⟨some 17, .pick (.t 14) (.k (.bool true)) (.t 16), none⟩, ⟨some 11, .mv (.t 17), none⟩])
 (.cond (.t 11)
 (.seq (.region [⟨some 4, .mv (.nil .u8), none⟩, ⟨some 5, .mv (.k (.int .i64 1)), none⟩])
 .ret)
 (.seq (.region [⟨some 19, .load true 2 (.t 2) (some 2), none⟩, ⟨some 20, .mv (.t 1), none⟩, ⟨some 21, .call 108 [(.t 20)], none⟩, ⟨some 22, .call 107 [(.t 19), (.t 21)], none⟩, ⟨some 23, .not (.t 22), none⟩, ⟨some 18, .mv (.t 23), none⟩])
 (.cond (.t 18)
 (.seq (.region [⟨some 4, .mv (.nil .u8), none⟩, ⟨some 5, .mv (.k (.int .i64 2)), none⟩])
 .ret)
 .skip)))))
 (.seq (.region [⟨some 24, .mv (.t 1), none⟩, ⟨some 25, .mkS ⟨5, 1, some .u8⟩ (.int .u8 0) (.t 24), none⟩, ⟨some 6, .mv (.t 25), none⟩])
 (.seq (.seq (.region [⟨some 26, .mv (.t 1), none⟩, ⟨some 27, .bin .sub (.t 26) (.k (.int .i64 1)), none⟩, ⟨some 7, .mv (.t 27), none⟩])
 (.block 1
 (.loop frac_Put.l1)))
 (.seq (.region [⟨some 46, .mv (.t 6), none⟩, ⟨some 4, .mv (.t 46), none⟩, ⟨some 5, .mv (.k (.int .i64 0)), none⟩])
 .ret)))))⟩
theorem frac_Put.chk : chkFn Try.prog Try.f68 frac_Put.c = true := by kernel_rfl
theorem frac_Put.ent : ∀ args w, (callFunc 68 args).run Try.prog w = .ok (.enter 68 args) w := enters Try.func68 (by kernel_rfl) (by kernel_rfl)

/-- slices.Concat[[]byte,byte] -/
def slices_Concat_byte_byte.l1 : SC :=
 (.seq (.region [⟨some 12, .bin .lss (.t 11) (.t 10), none⟩])
 (.seq (.cond (.t 12)
 .skip
 (.exit 0))
 (.seq (.block 1
 (.seq (.region [⟨some 13, .idx 1 (.t 9) (.t 11), none⟩, ⟨some 14, .load false 1 (.t 13) none, none⟩, ⟨some 5, .mv (.t 14), none⟩])
 (.seq (.region [⟨some 15, .mv (.t 3), none⟩, ⟨some 16, .mv (.t 5), none⟩, ⟨some 17, .len (.t 16), none⟩, ⟨some 18, .bin .add (.t 15) (.t 17), none⟩, ⟨some 3, .mv (.t 18), none⟩])
 (.seq (.region [⟨some 19, .mv (.t 3), none⟩, ⟨some 20, .bin .lss (.t 19) (.k (.int .i64 0)), none⟩])
 (.cond (.t 20)
 .bad
 .skip)))))
 (.region [⟨some 22, .bin .add (.t 11) (.k (.int .i64 1)), none⟩, ⟨some 11, .mv (.t 22), none⟩]))))
def slices_Concat_byte_byte.l2 : SC :=
 (.seq (.region [⟨some 28, .bin .lss (.t 27) (.t 26), none⟩])
 (.seq (.cond (.t 28)
 .skip
 (.exit 2))
 (.seq (.block 3
 (.seq (.region [⟨some 29, .idx 1 (.t 25) (.t 27), none⟩, ⟨some 30, .load false 1 (.t 29) none, none⟩, ⟨some 8, .mv (.t 30), none⟩])
 (.region [⟨some 31, .mv (.t 6), none⟩, ⟨some 32, .mv (.t 8), none⟩, ⟨some 33, .app ⟨5, 1, some .u8⟩ (.t 31) (.t 32), none⟩, ⟨some 6, .mv (.t 33), none⟩])))
 (.region [⟨some 34, .bin .add (.t 27) (.k (.int .i64 1)), none⟩, ⟨some 27, .mv (.t 34), none⟩]))))
def slices_Concat_byte_byte.c : SF := ⟨36, [.t 2],
 (.seq (.region [⟨some 2, .mv (.nil .u8), none⟩])
 (.seq (.region [⟨some 3, .mv (.k (.int .i64 0)), none⟩])
 (.seq (.seq (.region [⟨some 9, .mv (.t 0), none⟩, ⟨some 10, .len (.t 9), none⟩, ⟨some 11, .mv (.k (.int .i64 0)), none⟩])
 (.block 0
 (.loop slices_Concat_byte_byte.l1)))
 (.seq (.region [⟨some 23, .mv (.t 3), none⟩, ⟨some 24, .callF 109 [(.nil .u8), (.t 23)], none⟩, ⟨some 6, .mv (.t 24), none⟩])
 (.seq (.seq (.region [⟨some 25, .mv (.t 0), none⟩, ⟨some 26, .len (.t 25), none⟩, ⟨some 27, .mv (.k (.int .i64 0)), none⟩])
 (.block 2
 (.loop slices_Concat_byte_byte.l2)))
 (.seq (.region [⟨some 35, .mv (.t 6), none⟩, ⟨some 2, .mv (.t 35), none⟩])
 .ret))))))⟩
theorem slices_Concat_byte_byte.chk : chkFn Try.prog Try.f69 slices_Concat_byte_byte.c = true := by kernel_rfl
theorem slices_Concat_byte_byte.ent : ∀ args w, (callFunc 69 args).run Try.prog w = .ok (.enter 69 args) w := enters Try.func69 (by kernel_rfl) (by kernel_rfl)

/-- epact/epactref19.join -/
def epactref19_join.c : SF := ⟨10, [.t 4],
 (.seq (.region [⟨some 4, .mv (.nil .u8), none⟩])
 (.seq (.region [⟨some 5, .bldS ⟨5, 1, some .u8⟩ [] 0 [], none⟩, ⟨some 6, .mv (.t 0), none⟩, ⟨some 7, .app ⟨5, 1, some .u8⟩ (.t 5) (.t 6), none⟩, ⟨some 8, .mv (.t 1), none⟩, ⟨some 9, .app ⟨5, 1, some .u8⟩ (.t 7) (.t 8), none⟩, ⟨some 4, .mv (.t 9), none⟩])
 .ret))⟩
theorem epactref19_join.chk : chkFn Try.prog Try.f70 epactref19_join.c = true := by kernel_rfl
theorem epactref19_join.ent : ∀ args w, (callFunc 70 args).run Try.prog w = .ok (.enter 70 args) w := enters Try.func70 (by kernel_rfl) (by kernel_rfl)

/-- epact/epactref19.Octets -/
def epactref19_Octets.l1 : SC :=
 (.forget [7, 8] (.seq (.seq (.region [⟨some 15, .mv (.t 6), none⟩, ⟨some 16, .bin .geq (.t 15) (.k (.int .i64 0)), none⟩])
 (.cond (.t 16)
 .skip
 (.exit 0)))
 (.seq (.block 1
 (.seq (.region [⟨some 20, .load true 2 (.t 2) (some 2), none⟩, ⟨some 21, .call 24 [(.k (.int .i64 256))], none⟩, ⟨some 22, .call 23 [(.t 20), (.t 21)], none⟩, ⟨some 19, .mv (.t 22), none⟩, ⟨some 23, .ext (.t 19) 0, none⟩, ⟨some 24, .ext (.t 19) 1, none⟩, ⟨some 7, .alloc [.v (.bool false), .nil .i64], none⟩, ⟨some 8, .alloc [.v (.bool false), .nil .i64], none⟩, ⟨none, .store 2 (.t 7) (.t 23) 7, none⟩, ⟨none, .store 2 (.t 8) (.t 24) 8, none⟩])
 (.seq (.region [⟨some 26, .load true 2 (.t 8) (some 8), none⟩, ⟨some 27, .call 25 [(.t 26)], none⟩, ⟨some 25, .mv (.t 27), none⟩, ⟨some 28, .ext (.t 25) 0, none⟩, ⟨some 29, .ext (.t 25) 1, none⟩, ⟨some 9, .mv (.t 28), none⟩, ⟨some 10, .mv (.t 29), none⟩])
 (.seq (.region [⟨some 30, .mv (.t 5), none⟩, ⟨some 31, .mv (.t 6), none⟩, ⟨some 32, .mv (.t 9), none⟩, ⟨some 33, .cvt .u8 (.t 32), none⟩, ⟨some 34, .idx 1 (.t 30) (.t 31), none⟩, ⟨none, .store 1 (.t 34) (.t 33) 12, none⟩])
 (.region [⟨some 35, .load true 2 (.t 7) (some 7), none⟩, ⟨none, .store 2 (.t 2) (.t 35) 2, none⟩])))))
 (.region [⟨some 17, .mv (.t 6), none⟩, ⟨some 18, .bin .sub (.t 17) (.k (.int .i64 1)), none⟩, ⟨some 6, .mv (.t 18), none⟩]))))
def epactref19_Octets.c : SF := ⟨37, [.t 4],
 (.seq (.region [⟨some 2, .box (.t 0), none⟩, ⟨some 4, .mv (.nil .u8), none⟩])
 (.seq (.region [⟨some 11, .mv (.t 1), none⟩, ⟨some 12, .mkS ⟨5, 1, some .u8⟩ (.int .u8 0) (.t 11), none⟩, ⟨some 5, .mv (.t 12), none⟩])
 (.seq (.seq (.region [⟨some 13, .mv (.t 1), none⟩, ⟨some 14, .bin .sub (.t 13) (.k (.int .i64 1)), none⟩, ⟨some 6, .mv (.t 14), none⟩])
 (.block 0
 (.loop epactref19_Octets.l1)))
 (.seq (.region [⟨some 36, .mv (.t 5), none⟩, ⟨some 4, .mv (.t 36), none⟩])
 .ret))))⟩
theorem epactref19_Octets.chk : chkFn Try.prog Try.f71 epactref19_Octets.c = true := by kernel_rfl
theorem epactref19_Octets.ent : ∀ args w, (callFunc 71 args).run Try.prog w = .ok (.enter 71 args) w := enters Try.func71 (by kernel_rfl) (by kernel_rfl)

/-- epact/frac.Get -/
def frac_Get.l1 : SC :=
 (.seq (.region [⟨some 15, .bin .lss (.t 14) (.t 13), none⟩])
 (.seq (.cond (.t 15)
 .skip
 (.exit 0))
 (.seq (.block 1
 (.seq (.region [⟨some 16, .idx 1 (.t 12) (.t 14), none⟩, ⟨some 17, .load false 1 (.t 16) none, none⟩, ⟨some 6, .mv (.t 17), none⟩])
 (.seq (.region [⟨some 19, .load true 2 (.t 4) (some 4), none⟩, ⟨some 20, .call 55 [(.k (.int .i64 256))], none⟩, ⟨some 21, .call 65 [(.t 19), (.t 20)], none⟩, ⟨some 18, .mv (.t 21), none⟩, ⟨some 22, .ext (.t 18) 0, none⟩, ⟨some 23, .ext (.t 18) 1, none⟩, ⟨none, .store 2 (.t 4) (.t 22) 4, none⟩])
 (.region [⟨some 25, .load true 2 (.t 4) (some 4), none⟩, ⟨some 26, .mv (.t 6), none⟩, ⟨some 27, .cvt .i64 (.t 26), none⟩, ⟨some 28, .call 55 [(.t 27)], none⟩, ⟨some 29, .call 73 [(.t 25), (.t 28)], none⟩, ⟨some 24, .mv (.t 29), none⟩, ⟨some 30, .ext (.t 24) 0, none⟩, ⟨some 31, .ext (.t 24) 1, none⟩, ⟨none, .store 2 (.t 4) (.t 30) 4, none⟩]))))
 (.region [⟨some 32, .bin .add (.t 14) (.k (.int .i64 1)), none⟩, ⟨some 14, .mv (.t 32), none⟩]))))
def frac_Get.c : SF := ⟨34, [.c 2 true 2, .t 3],
 (.seq (.region [⟨some 2, .alloc [.v (.int .i64 0), .v (.int .u64 0)], none⟩, ⟨some 3, .mv (.k (.int .i64 0)), none⟩])
 (.seq (.seq (.region [⟨some 7, .mv (.t 0), none⟩, ⟨some 8, .len (.t 7), none⟩, ⟨some 9, .bin .gtr (.t 8) (.k (.int .i64 15)), none⟩])
 (.cond (.t 9)
 (.seq (.region [⟨some 10, .build [.v (.int .i64 0), .v (.int .u64 0)] [], none⟩, ⟨none, .store 2 (.t 2) (.t 10) 2, none⟩, ⟨some 3, .mv (.k (.int .i64 1)), none⟩])
 .ret)
 .skip))
 (.seq (.region [⟨some 11, .build [.v (.int .i64 0), .v (.int .u64 0)] [], none⟩, ⟨some 4, .alloc [.v (.int .i64 0), .v (.int .u64 0)], none⟩, ⟨none, .store 2 (.t 4) (.t 11) 4, none⟩])
 (.seq (.seq (.region [⟨some 12, .mv (.t 0), none⟩, ⟨some 13, .len (.t 12), none⟩, ⟨some 14, .mv (.k (.int .i64 0)), none⟩])
 (.block 0
 (.loop frac_Get.l1)))
 (.seq (.region [⟨some 33, .load true 2 (.t 4) (some 4), none⟩, ⟨none, .store 2 (.t 2) (.t 33) 2, none⟩, ⟨some 3, .mv (.k (.int .i64 0)), none⟩])
 .ret)))))⟩
theorem frac_Get.chk : chkFn Try.prog Try.f72 frac_Get.c = true := by kernel_rfl
theorem frac_Get.ent : ∀ args w, (callFunc 72 args).run Try.prog w = .ok (.enter 72 args) w := enters Try.func72 (by kernel_rfl) (by kernel_rfl)

/-- epact/wide.Add -/
def wide_Add.c : SF := ⟨37, [.c 4 true 2, .t 5],
 (.seq (.region [⟨some 2, .box (.t 0), none⟩, ⟨some 3, .box (.t 1), none⟩, ⟨some 4, .alloc [.v (.int .i64 0), .v (.int .u64 0)], none⟩, ⟨some 5, .mv (.k (.int .i64 0)), none⟩])
 (.seq (.region [⟨some 10, .load true 2 (.t 2) (some 2), none⟩, ⟨some 11, .call 111 [(.t 10)], none⟩, ⟨some 12, .load true 2 (.t 3) (some 3), none⟩, ⟨some 13, .call 111 [(.t 12)], none⟩, ⟨some 14, .call 110 [(.t 11), (.t 13)], none⟩, ⟨some 9, .mv (.t 14), none⟩, ⟨some 15, .ext (.t 9) 0, none⟩, ⟨some 16, .ext (.t 9) 1, none⟩, ⟨some 6, .alloc [.v (.int .u64 0), .v (.int .u64 0)], none⟩, ⟨none, .store 2 (.t 6) (.t 15) 6, none⟩, ⟨some 7, .mv (.t 16), none⟩])
 (.seq (.region [⟨some 17, .load true 2 (.t 6) (some 6), none⟩, ⟨some 18, .call 112 [(.t 17)], none⟩, ⟨some 8, .alloc [.v (.int .i64 0), .v (.int .u64 0)], none⟩, ⟨none, .store 2 (.t 8) (.t 18) 8, none⟩])
 (.seq (.seq (.region [⟨some 19, .fld 0 (.t 2), none⟩, ⟨some 20, .load false 1 (.t 19) (some 2), none⟩, ⟨some 21, .bin .shr (.t 20) (.k (.int .u64 63)), none⟩, ⟨some 22, .fld 0 (.t 3), none⟩, ⟨some 23, .load false 1 (.t 22) (some 3), none⟩, ⟨some 24, .bin .shr (.t 23) (.k (.int .u64 63)), none⟩, ⟨some 25, .bin .eql (.t 21) (.t 24), none⟩, ⟨some 26, .mv (.t 25), none⟩, ⟨some 27, .fld 0 (.t 8), some (26, true)⟩, ⟨some 28, .load false 1 (.t 27) (some 8), some (26, true)⟩, ⟨some 29, .bin .shr (.t 28) (.k (.int .u64 63)), some (26, true)⟩, ⟨some 30, .fld 0 (.t 2), some (26, true)⟩, ⟨some 31, .load false 1 (.t 30) (some 2), some (26, true)⟩, ⟨some 32, .bin .shr (.t 31) (.k (.int .u64 63)), some (26, true)⟩, ⟨some 33, .bin .neq (.t 29) (.t 32), some (26, true)⟩, ⟨some 34, .pick (.t 26) (.t 33) (.k (.bool false)), none⟩])
 (.cond (.t 34)
 (.seq (.region [⟨some 35, .build [.v (.int .i64 0), .v (.int .u64 0)] [], none⟩, ⟨none, .store 2 (.t 4) (.t 35) 4, none⟩, ⟨some 5, .mv (.k (.int .i64 2)), none⟩])
 .ret)
 .skip))
 (.seq (.region [⟨some 36, .load true 2 (.t 8) (some 8), none⟩, ⟨none, .store 2 (.t 4) (.t 36) 4, none⟩, ⟨some 5, .mv (.k (.int .i64 0)), none⟩])
 .ret)))))⟩
theorem wide_Add.chk : chkFn Try.prog Try.f73 wide_Add.c = true := by kernel_rfl
theorem wide_Add.ent : ∀ args w, (callFunc 73 args).run Try.prog w = .ok (.enter 73 args) w := enters Try.func73 (by kernel_rfl) (by kernel_rfl)

/-- epact/gps.times -/
def gps_times.c : SF := ⟨16, [.c 4 true 2],
 (.seq (.region [⟨some 4, .alloc [.v (.int .i64 0), .v (.int .u64 0)], none⟩])
 (.seq (.region [⟨some 8, .mv (.t 0), none⟩, ⟨some 9, .call 55 [(.t 8)], none⟩, ⟨some 10, .mv (.t 1), none⟩, ⟨some 11, .call 55 [(.t 10)], none⟩, ⟨some 12, .call 65 [(.t 9), (.t 11)], none⟩, ⟨some 7, .mv (.t 12), none⟩, ⟨some 13, .ext (.t 7) 0, none⟩, ⟨some 14, .ext (.t 7) 1, none⟩, ⟨some 5, .alloc [.v (.int .i64 0), .v (.int .u64 0)], none⟩, ⟨none, .store 2 (.t 5) (.t 13) 5, none⟩, ⟨some 6, .mv (.t 14), none⟩])
 (.seq (.region [⟨some 15, .load true 2 (.t 5) (some 5), none⟩, ⟨none, .store 2 (.t 4) (.t 15) 4, none⟩])
 .ret)))⟩
theorem gps_times.chk : chkFn Try.prog Try.f74 gps_times.c = true := by kernel_rfl
theorem gps_times.ent : ∀ args w, (callFunc 74 args).run Try.prog w = .ok (.enter 74 args) w := enters Try.func74 (by kernel_rfl) (by kernel_rfl)

/-- epact/pivot.Near -/
def pivot_Near.c : SF := ⟨78, [.c 6 true 2, .t 7],
 (.seq (.region [⟨some 3, .box (.t 0), none⟩, ⟨some 4, .box (.t 1), none⟩, ⟨some 5, .box (.t 2), none⟩, ⟨some 6, .alloc [.v (.int .i64 0), .v (.int .u64 0)], none⟩, ⟨some 7, .mv (.k (.int .i64 0)), none⟩])
 (.seq (.block 0
 (.seq (.region [⟨some 18, .load true 2 (.t 4) (some 4), none⟩, ⟨some 19, .call 55 [(.k (.int .i64 0))], none⟩, ⟨some 20, .call 113 [(.t 18), (.t 19)], none⟩, ⟨some 21, .bin .leq (.t 20) (.k (.int .i64 0)), none⟩, ⟨some 17, .mv (.t 21), none⟩])
 (.cond (.t 17)
 (.seq (.region [⟨some 22, .build [.v (.int .i64 0), .v (.int .u64 0)] [], none⟩, ⟨none, .store 2 (.t 6) (.t 22) 6, none⟩, ⟨some 7, .mv (.k (.int .i64 3)), none⟩])
 .ret)
 (.seq (.region [⟨some 24, .load true 2 (.t 3) (some 3), none⟩, ⟨some 25, .call 55 [(.k (.int .i64 0))], none⟩, ⟨some 26, .call 113 [(.t 24), (.t 25)], none⟩, ⟨some 27, .bin .lss (.t 26) (.k (.int .i64 0)), none⟩, ⟨some 28, .mv (.t 27), none⟩, ⟨some 29, .load true 2 (.t 3) (some 3), some (28, false)⟩, ⟨some 30, .load true 2 (.t 4) (some 4), some (28, false)⟩, ⟨some 31, .call 113 [(.t 29), (.t 30)], some (28, false)⟩, ⟨some 32, .bin .geq (.t 31) (.k (.int .i64 0)), some (28, false)⟩, ⟨some 33, .pick (.t 28) (.k (.bool true)) (.t 32), none⟩, ⟨some 23, .mv (.t 33), none⟩])
 (.cond (.t 23)
 (.seq (.region [⟨some 34, .build [.v (.int .i64 0), .v (.int .u64 0)] [], none⟩, ⟨none, .store 2 (.t 6) (.t 34) 6, none⟩, ⟨some 7, .mv (.k (.int .i64 1)), none⟩])
 .ret)
 .skip)))))
 (.seq (.region [⟨some 36, .load true 2 (.t 4) (some 4), none⟩, ⟨some 37, .call 55 [(.k (.int .i64 2))], none⟩, ⟨some 38, .call 54 [(.t 36), (.t 37)], none⟩, ⟨some 35, .mv (.t 38), none⟩, ⟨some 39, .ext (.t 35) 0, none⟩, ⟨some 40, .ext (.t 35) 1, none⟩, ⟨some 41, .ext (.t 35) 2, none⟩, ⟨some 8, .alloc [.v (.int .i64 0), .v (.int .u64 0)], none⟩, ⟨some 9, .alloc [.v (.int .i64 0), .v (.int .u64 0)], none⟩, ⟨none, .store 2 (.t 8) (.t 39) 8, none⟩, ⟨none, .store 2 (.t 9) (.t 40) 9, none⟩, ⟨some 10, .mv (.t 41), none⟩])
 (.seq (.region [⟨some 43, .load true 2 (.t 5) (some 5), none⟩, ⟨some 44, .load true 2 (.t 8) (some 8), none⟩, ⟨some 45, .call 114 [(.t 43), (.t 44)], none⟩, ⟨some 42, .mv (.t 45), none⟩, ⟨some 46, .ext (.t 42) 0, none⟩, ⟨some 47, .ext (.t 42) 1, none⟩, ⟨some 11, .alloc [.v (.int .i64 0), .v (.int .u64 0)], none⟩, ⟨none, .store 2 (.t 11) (.t 46) 11, none⟩, ⟨some 12, .mv (.t 47), none⟩])
 (.seq (.seq (.region [⟨some 48, .mv (.t 12), none⟩, ⟨some 49, .bin .neq (.t 48) (.k (.int .i64 0)), none⟩])
 (.cond (.t 49)
 (.seq (.region [⟨some 50, .build [.v (.int .i64 0), .v (.int .u64 0)] [], none⟩, ⟨some 51, .mv (.t 12), none⟩, ⟨none, .store 2 (.t 6) (.t 50) 6, none⟩, ⟨some 7, .mv (.t 51), none⟩])
 .ret)
 .skip))
 (.seq (.region [⟨some 53, .load true 2 (.t 11) (some 11), none⟩, ⟨some 54, .load true 2 (.t 4) (some 4), none⟩, ⟨some 55, .call 67 [(.t 53), (.t 54)], none⟩, ⟨some 52, .mv (.t 55), none⟩, ⟨some 56, .ext (.t 52) 0, none⟩, ⟨some 57, .ext (.t 52) 1, none⟩, ⟨some 13, .alloc [.v (.int .i64 0), .v (.int .u64 0)], none⟩, ⟨none, .store 2 (.t 13) (.t 56) 13, none⟩, ⟨some 14, .mv (.t 57), none⟩])
 (.seq (.region [⟨some 59, .load true 2 (.t 3) (some 3), none⟩, ⟨some 60, .load true 2 (.t 13) (some 13), none⟩, ⟨some 61, .call 114 [(.t 59), (.t 60)], none⟩, ⟨some 58, .mv (.t 61), none⟩, ⟨some 62, .ext (.t 58) 0, none⟩, ⟨some 63, .ext (.t 58) 1, none⟩, ⟨some 15, .alloc [.v (.int .i64 0), .v (.int .u64 0)], none⟩, ⟨none, .store 2 (.t 15) (.t 62) 15, none⟩, ⟨some 16, .mv (.t 63), none⟩])
 (.seq (.seq (.region [⟨some 64, .fld 0 (.t 15), none⟩, ⟨some 65, .load false 1 (.t 64) (some 15), none⟩, ⟨some 66, .bin .lss (.t 65) (.k (.int .i64 0)), none⟩])
 (.cond (.t 66)
 (.region [⟨some 68, .load true 2 (.t 15) (some 15), none⟩, ⟨some 69, .load true 2 (.t 4) (some 4), none⟩, ⟨some 70, .call 73 [(.t 68), (.t 69)], none⟩, ⟨some 67, .mv (.t 70), none⟩, ⟨some 71, .ext (.t 67) 0, none⟩, ⟨some 72, .ext (.t 67) 1, none⟩, ⟨none, .store 2 (.t 15) (.t 71) 15, none⟩])
 .skip))
 (.seq (.region [⟨some 73, .load true 2 (.t 11) (some 11), none⟩, ⟨some 74, .load true 2 (.t 15) (some 15), none⟩, ⟨some 75, .call 73 [(.t 73), (.t 74)], none⟩, ⟨some 76, .ext (.t 75) 0, none⟩, ⟨some 77, .ext (.t 75) 1, none⟩, ⟨none, .store 2 (.t 6) (.t 76) 6, none⟩, ⟨some 7, .mv (.t 77), none⟩])
 .ret)))))))))⟩
theorem pivot_Near.chk : chkFn Try.prog Try.f75 pivot_Near.c = true := by kernel_rfl
theorem pivot_Near.ent : ∀ args w, (callFunc 75 args).run Try.prog w = .ok (.enter 75 args) w := enters Try.func75 (by kernel_rfl) (by kernel_rfl)

/-- epact/epactref19.Number -/
def epactref19_Number.l1 : SC :=
 (.seq (.seq (.region [⟨some 6, .mv (.t 4), none⟩, ⟨some 7, .mv (.t 0), none⟩, ⟨some 8, .len (.t 7), none⟩, ⟨some 9, .bin .lss (.t 6) (.t 8), none⟩])
 (.cond (.t 9)
 .skip
 (.exit 0)))
 (.seq (.block 1
 (.region [⟨some 12, .load true 2 (.t 3) (some 3), none⟩, ⟨some 13, .call 24 [(.k (.int .i64 256))], none⟩, ⟨some 14, .call 33 [(.t 12), (.t 13)], none⟩, ⟨some 15, .mv (.t 0), none⟩, ⟨some 16, .mv (.t 4), none⟩, ⟨some 17, .idx 1 (.t 15) (.t 16), none⟩, ⟨some 18, .load false 1 (.t 17) none, none⟩, ⟨some 19, .cvt .i64 (.t 18), none⟩, ⟨some 20, .call 24 [(.t 19)], none⟩, ⟨some 21, .call 57 [(.t 14), (.t 20)], none⟩, ⟨none, .store 2 (.t 3) (.t 21) 3, none⟩]))
 (.region [⟨some 10, .mv (.t 4), none⟩, ⟨some 11, .bin .add (.t 10) (.k (.int .i64 1)), none⟩, ⟨some 4, .mv (.t 11), none⟩])))
def epactref19_Number.c : SF := ⟨23, [.c 2 true 2],
 (.seq (.region [⟨some 2, .alloc [.v (.bool false), .nil .i64], none⟩])
 (.seq (.region [⟨some 5, .build [.v (.bool false), .nil .i64] [], none⟩, ⟨some 3, .alloc [.v (.bool false), .nil .i64], none⟩, ⟨none, .store 2 (.t 3) (.t 5) 3, none⟩])
 (.seq (.seq (.region [⟨some 4, .mv (.k (.int .i64 0)), none⟩])
 (.block 0
 (.loop epactref19_Number.l1)))
 (.seq (.region [⟨some 22, .load true 2 (.t 3) (some 3), none⟩, ⟨none, .store 2 (.t 2) (.t 22) 2, none⟩])
 .ret))))⟩
theorem epactref19_Number.chk : chkFn Try.prog Try.f76 epactref19_Number.c = true := by kernel_rfl
theorem epactref19_Number.ent : ∀ args w, (callFunc 76 args).run Try.prog w = .ok (.enter 76 args) w := enters Try.func76 (by kernel_rfl) (by kernel_rfl)

/-- epact/epactref19.About -/
def epactref19_About.c : SF := ⟨54, [.c 6 true 2, .t 7],
 (.seq (.region [⟨some 3, .box (.t 0), none⟩, ⟨some 4, .box (.t 1), none⟩, ⟨some 5, .box (.t 2), none⟩, ⟨some 6, .alloc [.v (.int .i64 0), .v (.int .u64 0)], none⟩, ⟨some 7, .mv (.k (.int .i64 0)), none⟩])
 (.seq (.region [⟨some 18, .load true 2 (.t 4) (some 4), none⟩, ⟨some 19, .call 24 [(.k (.int .i64 2))], none⟩, ⟨some 20, .call 23 [(.t 18), (.t 19)], none⟩, ⟨some 17, .mv (.t 20), none⟩, ⟨some 21, .ext (.t 17) 0, none⟩, ⟨some 22, .ext (.t 17) 1, none⟩, ⟨some 8, .alloc [.v (.bool false), .nil .i64], none⟩, ⟨some 9, .alloc [.v (.bool false), .nil .i64], none⟩, ⟨none, .store 2 (.t 8) (.t 21) 8, none⟩, ⟨none, .store 2 (.t 9) (.t 22) 9, none⟩])
 (.seq (.region [⟨some 23, .load true 2 (.t 5) (some 5), none⟩, ⟨some 24, .load true 2 (.t 8) (some 8), none⟩, ⟨some 25, .call 46 [(.t 23), (.t 24)], none⟩, ⟨some 10, .alloc [.v (.bool false), .nil .i64], none⟩, ⟨none, .store 2 (.t 10) (.t 25) 10, none⟩])
 (.seq (.region [⟨some 27, .load true 2 (.t 3) (some 3), none⟩, ⟨some 28, .load true 2 (.t 10) (some 10), none⟩, ⟨some 29, .call 46 [(.t 27), (.t 28)], none⟩, ⟨some 30, .load true 2 (.t 4) (some 4), none⟩, ⟨some 31, .call 23 [(.t 29), (.t 30)], none⟩, ⟨some 26, .mv (.t 31), none⟩, ⟨some 32, .ext (.t 26) 0, none⟩, ⟨some 33, .ext (.t 26) 1, none⟩, ⟨some 11, .alloc [.v (.bool false), .nil .i64], none⟩, ⟨some 12, .alloc [.v (.bool false), .nil .i64], none⟩, ⟨none, .store 2 (.t 11) (.t 32) 11, none⟩, ⟨none, .store 2 (.t 12) (.t 33) 12, none⟩])
 (.seq (.region [⟨some 35, .load true 2 (.t 10) (some 10), none⟩, ⟨some 36, .call 64 [(.t 35)], none⟩, ⟨some 34, .mv (.t 36), none⟩, ⟨some 37, .ext (.t 34) 0, none⟩, ⟨some 38, .ext (.t 34) 1, none⟩, ⟨some 13, .alloc [.v (.int .i64 0), .v (.int .u64 0)], none⟩, ⟨none, .store 2 (.t 13) (.t 37) 13, none⟩, ⟨some 14, .mv (.t 38), none⟩])
 (.seq (.region [⟨some 40, .load true 2 (.t 10) (some 10), none⟩, ⟨some 41, .load true 2 (.t 12) (some 12), none⟩, ⟨some 42, .call 57 [(.t 40), (.t 41)], none⟩, ⟨some 43, .call 64 [(.t 42)], none⟩, ⟨some 39, .mv (.t 43), none⟩, ⟨some 44, .ext (.t 39) 0, none⟩, ⟨some 45, .ext (.t 39) 1, none⟩, ⟨some 15, .alloc [.v (.int .i64 0), .v (.int .u64 0)], none⟩, ⟨none, .store 2 (.t 15) (.t 44) 15, none⟩, ⟨some 16, .mv (.t 45), none⟩])
 (.seq (.seq (.region [⟨some 46, .mv (.t 14), none⟩, ⟨some 47, .not (.t 46), none⟩, ⟨some 48, .mv (.t 47), none⟩, ⟨some 49, .mv (.t 16), some (48, false)⟩, ⟨some 50, .not (.t 49), some (48, false)⟩, ⟨some 51, .pick (.t 48) (.k (.bool true)) (.t 50), none⟩])
 (.cond (.t 51)
 (.seq (.region [⟨some 52, .build [.v (.int .i64 0), .v (.int .u64 0)] [], none⟩, ⟨none, .store 2 (.t 6) (.t 52) 6, none⟩, ⟨some 7, .mv (.k (.int .i64 2)), none⟩])
 .ret)
 .skip))
 (.seq (.region [⟨some 53, .load true 2 (.t 15) (some 15), none⟩, ⟨none, .store 2 (.t 6) (.t 53) 6, none⟩, ⟨some 7, .mv (.k (.int .i64 0)), none⟩])
 .ret))))))))⟩
theorem epactref19_About.chk : chkFn Try.prog Try.f77 epactref19_About.c = true := by kernel_rfl
theorem epactref19_About.ent : ∀ args w, (callFunc 77 args).run Try.prog w = .ok (.enter 77 args) w := enters Try.func77 (by kernel_rfl) (by kernel_rfl)

/-- epact/cds.unit -/
def cds_unit.c : SF := ⟨10, [.t 2],
 (.seq (.region [⟨some 2, .mv (.k (.int .i64 0)), none⟩])
 (.seq (.seq (.region [⟨some 3, .mv (.t 0), none⟩])
 (.block 0
 (.seq (.region [⟨some 5, .bin .eql (.t 3) (.k (.int .i64 0)), none⟩, ⟨some 4, .mv (.t 5), none⟩])
 (.cond (.t 4)
 (.seq (.region [⟨some 2, .mv (.k (.int .i64 1000000000000000)), none⟩])
 .ret)
 (.seq (.region [⟨some 7, .bin .eql (.t 3) (.k (.int .i64 2)), none⟩, ⟨some 6, .mv (.t 7), none⟩])
 (.cond (.t 6)
 (.seq (.region [⟨some 2, .mv (.k (.int .i64 1000000000000)), none⟩])
 .ret)
 (.seq (.region [⟨some 9, .bin .eql (.t 3) (.k (.int .i64 4)), none⟩, ⟨some 8, .mv (.t 9), none⟩])
 (.cond (.t 8)
 (.seq (.region [⟨some 2, .mv (.k (.int .i64 1000000)), none⟩])
 .ret)
 .skip))))))))
 (.seq (.region [⟨some 2, .mv (.k (.int .i64 0)), none⟩])
 .ret)))⟩
theorem cds_unit.chk : chkFn Try.prog Try.f78 cds_unit.c = true := by kernel_rfl
theorem cds_unit.ent : ∀ args w, (callFunc 78 args).run Try.prog w = .ok (.enter 78 args) w := enters Try.func78 (by kernel_rfl) (by kernel_rfl)

/-- epact/cds.in -/
def cds_in.c : SF := ⟨9, [.t 2],
 (.seq (.region [⟨some 2, .mv (.k (.bool false)), none⟩])
 (.seq (.region [⟨some 3, .mv (.t 0), none⟩, ⟨some 4, .bin .geq (.t 3) (.k (.int .i64 (-1099511627776))), none⟩, ⟨some 5, .mv (.t 4), none⟩, ⟨some 6, .mv (.t 0), some (5, true)⟩, ⟨some 7, .bin .leq (.t 6) (.k (.int .i64 1099511627776)), some (5, true)⟩, ⟨some 8, .pick (.t 5) (.t 7) (.k (.bool false)), none⟩, ⟨some 2, .mv (.t 8), none⟩])
 .ret))⟩
theorem cds_in.chk : chkFn Try.prog Try.f79 cds_in.c = true := by kernel_rfl
theorem cds_in.ent : ∀ args w, (callFunc 79 args).run Try.prog w = .ok (.enter 79 args) w := enters Try.func79 (by kernel_rfl) (by kernel_rfl)

/-- epact/cds.era -/
def cds_era.c : SF := ⟨7, [.c 2 true 2],
 (.seq (.region [⟨some 2, .alloc [.v (.int .i64 0), .v (.int .u64 0)], none⟩])
 (.seq (.region [⟨some 3, .mv (.t 0), none⟩, ⟨some 4, .bin .mul (.k (.int .i64 8)) (.t 3), none⟩, ⟨some 5, .bin .shl (.k (.int .i64 1)) (.t 4), none⟩, ⟨some 6, .call 55 [(.t 5)], none⟩, ⟨none, .store 2 (.t 2) (.t 6) 2, none⟩])
 .ret))⟩
theorem cds_era.chk : chkFn Try.prog Try.f80 cds_era.c = true := by kernel_rfl
theorem cds_era.ent : ∀ args w, (callFunc 80 args).run Try.prog w = .ok (.enter 80 args) w := enters Try.func80 (by kernel_rfl) (by kernel_rfl)

/-- epact/cds.head -/
def cds_head.c : SF := ⟨13, [.t 4],
 (.seq (.region [⟨some 4, .mv (.k (.int .u8 0)), none⟩])
 (.seq (.region [⟨some 5, .mv (.t 0), none⟩, ⟨some 6, .bin .sub (.t 5) (.k (.int .i64 2)), none⟩, ⟨some 7, .bin .mul (.t 6) (.k (.int .i64 4)), none⟩, ⟨some 8, .bin .add (.k (.int .i64 64)) (.t 7), none⟩, ⟨some 9, .mv (.t 1), none⟩, ⟨some 10, .bin .quo (.t 9) (.k (.int .i64 2)), none⟩, ⟨some 11, .bin .add (.t 8) (.t 10), none⟩, ⟨some 12, .cvt .u8 (.t 11), none⟩, ⟨some 4, .mv (.t 12), none⟩])
 .ret))⟩
theorem cds_head.chk : chkFn Try.prog Try.f81 cds_head.c = true := by kernel_rfl
theorem cds_head.ent : ∀ args w, (callFunc 81 args).run Try.prog w = .ok (.enter 81 args) w := enters Try.func81 (by kernel_rfl) (by kernel_rfl)

/-- epact/cds.put -/
def cds_put.c : SF := ⟨15, [.t 4],
 (.seq (.region [⟨some 4, .mv (.nil .u8), none⟩])
 (.seq (.region [⟨some 8, .mv (.t 0), none⟩, ⟨some 9, .call 55 [(.t 8)], none⟩, ⟨some 10, .mv (.t 1), none⟩, ⟨some 11, .call 68 [(.t 9), (.t 10)], none⟩, ⟨some 7, .mv (.t 11), none⟩, ⟨some 12, .ext (.t 7) 0, none⟩, ⟨some 13, .ext (.t 7) 1, none⟩, ⟨some 5, .mv (.t 12), none⟩, ⟨some 6, .mv (.t 13), none⟩])
 (.seq (.region [⟨some 14, .mv (.t 5), none⟩, ⟨some 4, .mv (.t 14), none⟩])
 .ret)))⟩
theorem cds_put.chk : chkFn Try.prog Try.f82 cds_put.c = true := by kernel_rfl
theorem cds_put.ent : ∀ args w, (callFunc 82 args).run Try.prog w = .ok (.enter 82 args) w := enters Try.func82 (by kernel_rfl) (by kernel_rfl)

/-- epact/epactref19.plain -/
def epactref19_plain.c : SF := ⟨21, [.t 2],
 (.seq (.region [⟨some 1, .box (.t 0), none⟩, ⟨some 2, .mv (.k (.bool false)), none⟩])
 (.seq (.region [⟨some 3, .fld 1 (.t 1), none⟩, ⟨some 4, .load false 1 (.t 3) (some 1), none⟩, ⟨some 5, .bin .geq (.t 4) (.k (.int .i64 0)), none⟩, ⟨some 6, .mv (.t 5), none⟩, ⟨some 7, .fld 1 (.t 1), some (6, true)⟩, ⟨some 8, .load false 1 (.t 7) (some 1), some (6, true)⟩, ⟨some 9, .bin .leq (.t 8) (.k (.int .i64 86400)), some (6, true)⟩, ⟨some 10, .pick (.t 6) (.t 9) (.k (.bool false)), none⟩, ⟨some 11, .mv (.t 10), none⟩, ⟨some 12, .fld 2 (.t 1), some (11, true)⟩, ⟨some 13, .load false 1 (.t 12) (some 1), some (11, true)⟩, ⟨some 14, .bin .geq (.t 13) (.k (.int .i64 0)), some (11, true)⟩, ⟨some 15, .pick (.t 11) (.t 14) (.k (.bool false)), none⟩, ⟨some 16, .mv (.t 15), none⟩, ⟨some 17, .fld 2 (.t 1), some (16, true)⟩, ⟨some 18, .load false 1 (.t 17) (some 1), some (16, true)⟩, ⟨some 19, .bin .lss (.t 18) (.k (.int .i64 1000000000000000000)), some (16, true)⟩, ⟨some 20, .pick (.t 16) (.t 19) (.k (.bool false)), none⟩, ⟨some 2, .mv (.t 20), none⟩])
 .ret))⟩
theorem epactref19_plain.chk : chkFn Try.prog Try.f83 epactref19_plain.c = true := by kernel_rfl
theorem epactref19_plain.ent : ∀ args w, (callFunc 83 args).run Try.prog w = .ok (.enter 83 args) w := enters Try.func83 (by kernel_rfl) (by kernel_rfl)

/-- epact/epactref19.fold -/
def epactref19_fold.c : SF := ⟨15, [.c 4 true 2],
 (.seq (.region [⟨some 2, .box (.t 0), none⟩, ⟨some 4, .alloc [.v (.bool false), .nil .i64], none⟩])
 (.seq (.region [⟨some 8, .load true 2 (.t 2) (some 2), none⟩, ⟨some 9, .mv (.t 1), none⟩, ⟨some 10, .call 47 [(.t 9)], none⟩, ⟨some 11, .call 23 [(.t 8), (.t 10)], none⟩, ⟨some 7, .mv (.t 11), none⟩, ⟨some 12, .ext (.t 7) 0, none⟩, ⟨some 13, .ext (.t 7) 1, none⟩, ⟨some 5, .alloc [.v (.bool false), .nil .i64], none⟩, ⟨some 6, .alloc [.v (.bool false), .nil .i64], none⟩, ⟨none, .store 2 (.t 5) (.t 12) 5, none⟩, ⟨none, .store 2 (.t 6) (.t 13) 6, none⟩])
 (.seq (.region [⟨some 14, .load true 2 (.t 6) (some 6), none⟩, ⟨none, .store 2 (.t 4) (.t 14) 4, none⟩])
 .ret)))⟩
theorem epactref19_fold.chk : chkFn Try.prog Try.f84 epactref19_fold.c = true := by kernel_rfl
theorem epactref19_fold.ent : ∀ args w, (callFunc 84 args).run Try.prog w = .ok (.enter 84 args) w := enters Try.func84 (by kernel_rfl) (by kernel_rfl)

/-- epact/cds.widths -/
def cds_widths.l1 : SC :=
 (.seq (.region [⟨some 21, .bin .lss (.t 20) (.t 19), none⟩])
 (.seq (.cond (.t 21)
 .skip
 (.exit 2))
 (.seq (.block 3
 (.seq (.region [⟨some 22, .idx 1 (.t 18) (.t 20), none⟩, ⟨some 23, .load false 1 (.t 22) (some 18), none⟩, ⟨some 8, .mv (.t 23), none⟩])
 (.seq (.region [⟨some 24, .mv (.t 0), none⟩, ⟨some 25, .idx 1 (.t 24) (.k (.int .i64 0)), none⟩, ⟨some 26, .load false 1 (.t 25) none, none⟩, ⟨some 27, .mv (.t 6), none⟩, ⟨some 28, .mv (.t 8), none⟩, ⟨some 29, .call 81 [(.t 27), (.t 28)], none⟩, ⟨some 30, .bin .eql (.t 26) (.t 29), none⟩])
 (.cond (.t 30)
 (.seq (.region [⟨some 31, .mv (.t 6), none⟩, ⟨some 32, .mv (.t 8), none⟩, ⟨some 33, .mv (.t 0), none⟩, ⟨some 34, .len (.t 33), none⟩, ⟨some 35, .mv (.t 6), none⟩, ⟨some 36, .bin .add (.k (.int .i64 1)) (.t 35), none⟩, ⟨some 37, .bin .add (.t 36) (.k (.int .i64 4)), none⟩, ⟨some 38, .mv (.t 8), none⟩, ⟨some 39, .bin .add (.t 37) (.t 38), none⟩, ⟨some 40, .bin .eql (.t 34) (.t 39), none⟩, ⟨some 2, .mv (.t 31), none⟩, ⟨some 3, .mv (.t 32), none⟩, ⟨some 4, .mv (.t 40), none⟩])
 .ret)
 .skip))))
 (.region [⟨some 41, .bin .add (.t 20) (.k (.int .i64 1)), none⟩, ⟨some 20, .mv (.t 41), none⟩]))))
def cds_widths.l2 : SC :=
 (.forget [18] (.seq (.region [⟨some 15, .bin .lss (.t 14) (.t 13), none⟩])
 (.seq (.cond (.t 15)
 .skip
 (.exit 0))
 (.seq (.block 1
 (.seq (.region [⟨some 16, .idx 1 (.t 12) (.t 14), none⟩, ⟨some 17, .load false 1 (.t 16) (some 12), none⟩, ⟨some 6, .mv (.t 17), none⟩])
 (.seq (.region [⟨some 18, .bldS ⟨3, 1, some .i64⟩ [.v (.int .i64 0), .v (.int .i64 0), .v (.int .i64 0)] 3 [(0, 1, (.k (.int .i64 0))), (1, 1, (.k (.int .i64 2))), (2, 1, (.k (.int .i64 4)))], none⟩, ⟨some 19, .len (.t 18), none⟩, ⟨some 20, .mv (.k (.int .i64 0)), none⟩])
 (.block 2
 (.loop cds_widths.l1)))))
 (.region [⟨some 42, .bin .add (.t 14) (.k (.int .i64 1)), none⟩, ⟨some 14, .mv (.t 42), none⟩])))))
def cds_widths.c : SF := ⟨43, [.t 2, .t 3, .t 4],
 (.seq (.region [⟨some 2, .mv (.k (.int .i64 0)), none⟩, ⟨some 3, .mv (.k (.int .i64 0)), none⟩, ⟨some 4, .mv (.k (.bool false)), none⟩])
 (.seq (.seq (.region [⟨some 9, .mv (.t 0), none⟩, ⟨some 10, .len (.t 9), none⟩, ⟨some 11, .bin .eql (.t 10) (.k (.int .i64 0)), none⟩])
 (.cond (.t 11)
 (.seq (.region [⟨some 2, .mv (.k (.int .i64 0)), none⟩, ⟨some 3, .mv (.k (.int .i64 0)), none⟩, ⟨some 4, .mv (.k (.bool false)), none⟩])
 .ret)
 .skip))
 (.seq (.seq (.region [⟨some 12, .bldS ⟨3, 1, some .i64⟩ [.v (.int .i64 0), .v (.int .i64 0)] 2 [(0, 1, (.k (.int .i64 2))), (1, 1, (.k (.int .i64 3)))], none⟩, ⟨some 13, .len (.t 12), none⟩, ⟨some 14, .mv (.k (.int .i64 0)), none⟩])
 (.block 0
 (.loop cds_widths.l2)))
 (.seq (.region [⟨some 2, .mv (.k (.int .i64 0)), none⟩, ⟨some 3, .mv (.k (.int .i64 0)), none⟩, ⟨some 4, .mv (.k (.bool false)), none⟩])
 .ret))))⟩
theorem cds_widths.chk : chkFn Try.prog Try.f85 cds_widths.c = true := by kernel_rfl
theorem cds_widths.ent : ∀ args w, (callFunc 85 args).run Try.prog w = .ok (.enter 85 args) w := enters Try.func85 (by kernel_rfl) (by kernel_rfl)

/-- epact/cds.get -/
def cds_get.c : SF := ⟨18, [.t 2],
 (.seq (.region [⟨some 2, .mv (.k (.int .i64 0)), none⟩])
 (.seq (.region [⟨some 8, .mv (.t 0), none⟩, ⟨some 9, .call 72 [(.t 8)], none⟩, ⟨some 7, .mv (.t 9), none⟩, ⟨some 10, .ext (.t 7) 0, none⟩, ⟨some 11, .ext (.t 7) 1, none⟩, ⟨some 3, .alloc [.v (.int .i64 0), .v (.int .u64 0)], none⟩, ⟨none, .store 2 (.t 3) (.t 10) 3, none⟩, ⟨some 4, .mv (.t 11), none⟩])
 (.seq (.region [⟨some 13, .load true 2 (.t 3) (some 3), none⟩, ⟨some 14, .call 56 [(.t 13)], none⟩, ⟨some 12, .mv (.t 14), none⟩, ⟨some 15, .ext (.t 12) 0, none⟩, ⟨some 16, .ext (.t 12) 1, none⟩, ⟨some 5, .mv (.t 15), none⟩, ⟨some 6, .mv (.t 16), none⟩])
 (.seq (.region [⟨some 17, .mv (.t 5), none⟩, ⟨some 2, .mv (.t 17), none⟩])
 .ret))))⟩
theorem cds_get.chk : chkFn Try.prog Try.f86 cds_get.c = true := by kernel_rfl
theorem cds_get.ent : ∀ args w, (callFunc 86 args).run Try.prog w = .ok (.enter 86 args) w := enters Try.func86 (by kernel_rfl) (by kernel_rfl)

/-- epact/ntp.shape -/
def ntp_shape.c : SF := ⟨11, [.t 2, .t 3],
 (.seq (.region [⟨some 2, .mv (.k (.int .i64 0)), none⟩, ⟨some 3, .mv (.k (.int .i64 0)), none⟩])
 (.seq (.seq (.region [⟨some 4, .mv (.t 0), none⟩])
 (.block 0
 (.seq (.seq (.region [⟨some 6, .bin .eql (.t 4) (.k (.int .i64 32)), none⟩, ⟨some 5, .mv (.t 6), none⟩])
 (.cond (.t 5)
 .skip
 (.seq (.region [⟨some 7, .bin .eql (.t 4) (.k (.int .i64 64)), none⟩, ⟨some 5, .mv (.t 7), none⟩])
 (.cond (.t 5)
 .skip
 (.region [⟨some 8, .bin .eql (.t 4) (.k (.int .i64 128)), none⟩, ⟨some 5, .mv (.t 8), none⟩])))))
 (.cond (.t 5)
 (.seq (.region [⟨some 9, .mv (.t 0), none⟩, ⟨some 10, .bin .quo (.t 9) (.k (.int .i64 16)), none⟩, ⟨some 2, .mv (.t 10), none⟩, ⟨some 3, .mv (.k (.int .i64 0)), none⟩])
 .ret)
 .skip))))
 (.seq (.region [⟨some 2, .mv (.k (.int .i64 0)), none⟩, ⟨some 3, .mv (.k (.int .i64 1)), none⟩])
 .ret)))⟩
theorem ntp_shape.chk : chkFn Try.prog Try.f87 ntp_shape.c = true := by kernel_rfl
theorem ntp_shape.ent : ∀ args w, (callFunc 87 args).run Try.prog w = .ok (.enter 87 args) w := enters Try.func87 (by kernel_rfl) (by kernel_rfl)

/-- epact/ntp.era -/
def ntp_era.l1 : SC :=
 (.seq (.region [⟨some 7, .bin .lss (.t 6) (.t 5), none⟩])
 (.seq (.cond (.t 7)
 .skip
 (.exit 0))
 (.seq (.block 1
 (.region [⟨some 9, .load true 2 (.t 3) (some 3), none⟩, ⟨some 10, .call 55 [(.k (.int .i64 256))], none⟩, ⟨some 11, .call 65 [(.t 9), (.t 10)], none⟩, ⟨some 8, .mv (.t 11), none⟩, ⟨some 12, .ext (.t 8) 0, none⟩, ⟨some 13, .ext (.t 8) 1, none⟩, ⟨none, .store 2 (.t 3) (.t 12) 3, none⟩]))
 (.region [⟨some 14, .bin .add (.t 6) (.k (.int .i64 1)), none⟩, ⟨some 6, .mv (.t 14), none⟩]))))
def ntp_era.c : SF := ⟨16, [.c 2 true 2],
 (.seq (.region [⟨some 2, .alloc [.v (.int .i64 0), .v (.int .u64 0)], none⟩])
 (.seq (.region [⟨some 4, .call 55 [(.k (.int .i64 1))], none⟩, ⟨some 3, .alloc [.v (.int .i64 0), .v (.int .u64 0)], none⟩, ⟨none, .store 2 (.t 3) (.t 4) 3, none⟩])
 (.seq (.seq (.region [⟨some 5, .mv (.t 0), none⟩, ⟨some 6, .mv (.k (.int .i64 0)), none⟩])
 (.block 0
 (.loop ntp_era.l1)))
 (.seq (.region [⟨some 15, .load true 2 (.t 3) (some 3), none⟩, ⟨none, .store 2 (.t 2) (.t 15) 2, none⟩])
 .ret))))⟩
theorem ntp_era.chk : chkFn Try.prog Try.f88 ntp_era.c = true := by kernel_rfl
theorem ntp_era.ent : ∀ args w, (callFunc 88 args).run Try.prog w = .ok (.enter 88 args) w := enters Try.func88 (by kernel_rfl) (by kernel_rfl)

/-- epact/frac.Encode -/
def frac_Encode.c : SF := ⟨24, [.c 4 true 2, .t 5],
 (.seq (.region [⟨some 4, .alloc [.v (.int .i64 0), .v (.int .u64 0)], none⟩, ⟨some 5, .mv (.k (.int .i64 0)), none⟩])
 (.seq (.seq (.region [⟨some 6, .mv (.t 0), none⟩, ⟨some 7, .bin .lss (.t 6) (.k (.int .i64 0)), none⟩, ⟨some 8, .mv (.t 7), none⟩, ⟨some 9, .mv (.t 0), some (8, false)⟩, ⟨some 10, .bin .geq (.t 9) (.k (.int .i64 1000000000000000000)), some (8, false)⟩, ⟨some 11, .pick (.t 8) (.k (.bool true)) (.t 10), none⟩, ⟨some 12, .mv (.t 11), none⟩, ⟨some 13, .mv (.t 1), some (12, false)⟩, ⟨some 14, .bin .lss (.t 13) (.k (.int .i64 0)), some (12, false)⟩, ⟨some 15, .pick (.t 12) (.k (.bool true)) (.t 14), none⟩, ⟨some 16, .mv (.t 15), none⟩, ⟨some 17, .mv (.t 1), some (16, false)⟩, ⟨some 18, .bin .gtr (.t 17) (.k (.int .i64 10)), some (16, false)⟩, ⟨some 19, .pick (.t 16) (.k (.bool true)) (.t 18), none⟩])
 (.cond (.t 19)
 (.seq (.region [⟨some 20, .build [.v (.int .i64 0), .v (.int .u64 0)] [], none⟩, ⟨none, .store 2 (.t 4) (.t 20) 4, none⟩, ⟨some 5, .mv (.k (.int .i64 1)), none⟩])
 .ret)
 .skip))
 (.seq (.region [⟨some 21, .mv (.t 0), none⟩, ⟨some 22, .mv (.t 1), none⟩, ⟨some 23, .call 115 [(.t 21), (.t 22)], none⟩, ⟨none, .store 2 (.t 4) (.t 23) 4, none⟩, ⟨some 5, .mv (.k (.int .i64 0)), none⟩])
 .ret)))⟩
theorem frac_Encode.chk : chkFn Try.prog Try.f89 frac_Encode.c = true := by kernel_rfl
theorem frac_Encode.ent : ∀ args w, (callFunc 89 args).run Try.prog w = .ok (.enter 89 args) w := enters Try.func89 (by kernel_rfl) (by kernel_rfl)

/-- epact/epactref19.Code -/
def epactref19_Code.c : SF := ⟨18, [.c 4 true 2],
 (.seq (.region [⟨some 4, .alloc [.v (.bool false), .nil .i64], none⟩])
 (.seq (.region [⟨some 8, .mv (.t 0), none⟩, ⟨some 9, .call 24 [(.t 8)], none⟩, ⟨some 10, .mv (.t 1), none⟩, ⟨some 11, .call 47 [(.t 10)], none⟩, ⟨some 12, .call 33 [(.t 9), (.t 11)], none⟩, ⟨some 13, .call 24 [(.k (.int .i64 1000000000000000000))], none⟩, ⟨some 14, .call 23 [(.t 12), (.t 13)], none⟩, ⟨some 7, .mv (.t 14), none⟩, ⟨some 15, .ext (.t 7) 0, none⟩, ⟨some 16, .ext (.t 7) 1, none⟩, ⟨some 5, .alloc [.v (.bool false), .nil .i64], none⟩, ⟨some 6, .alloc [.v (.bool false), .nil .i64], none⟩, ⟨none, .store 2 (.t 5) (.t 15) 5, none⟩, ⟨none, .store 2 (.t 6) (.t 16) 6, none⟩])
 (.seq (.region [⟨some 17, .load true 2 (.t 5) (some 5), none⟩, ⟨none, .store 2 (.t 4) (.t 17) 4, none⟩])
 .ret)))⟩
theorem epactref19_Code.chk : chkFn Try.prog Try.f90 epactref19_Code.c = true := by kernel_rfl
theorem epactref19_Code.ent : ∀ args w, (callFunc 90 args).run Try.prog w = .ok (.enter 90 args) w := enters Try.func90 (by kernel_rfl) (by kernel_rfl)

/-- epact/frac.Decode -/
def frac_Decode.c : SF := ⟨53, [.t 4, .t 5],
 (.seq (.region [⟨some 2, .box (.t 0), none⟩, ⟨some 4, .mv (.k (.int .i64 0)), none⟩, ⟨some 5, .mv (.k (.int .i64 0)), none⟩])
 (.seq (.seq (.region [⟨some 11, .mv (.t 1), none⟩, ⟨some 12, .bin .lss (.t 11) (.k (.int .i64 0)), none⟩, ⟨some 13, .mv (.t 12), none⟩, ⟨some 14, .mv (.t 1), some (13, false)⟩, ⟨some 15, .bin .gtr (.t 14) (.k (.int .i64 10)), some (13, false)⟩, ⟨some 16, .pick (.t 13) (.k (.bool true)) (.t 15), none⟩, ⟨some 17, .mv (.t 16), none⟩, ⟨some 18, .load true 2 (.t 2) (some 2), some (17, false)⟩, ⟨some 19, .mv (.t 1), some (17, false)⟩, ⟨some 20, .call 108 [(.t 19)], some (17, false)⟩, ⟨some 21, .call 107 [(.t 18), (.t 20)], some (17, false)⟩, ⟨some 22, .not (.t 21), some (17, false)⟩, ⟨some 23, .pick (.t 17) (.k (.bool true)) (.t 22), none⟩])
 (.cond (.t 23)
 (.seq (.region [⟨some 4, .mv (.k (.int .i64 0)), none⟩, ⟨some 5, .mv (.k (.int .i64 1)), none⟩])
 .ret)
 .skip))
 (.seq (.region [⟨some 25, .load true 2 (.t 2) (some 2), none⟩, ⟨some 26, .call 55 [(.k (.int .i64 1000000000000000000))], none⟩, ⟨some 27, .mv (.t 1), none⟩, ⟨some 28, .call 108 [(.t 27)], none⟩, ⟨some 29, .call 101 [(.t 25), (.t 26), (.t 28)], none⟩, ⟨some 24, .mv (.t 29), none⟩, ⟨some 30, .ext (.t 24) 0, none⟩, ⟨some 31, .ext (.t 24) 1, none⟩, ⟨some 32, .ext (.t 24) 2, none⟩, ⟨some 6, .alloc [.v (.int .i64 0), .v (.int .u64 0)], none⟩, ⟨some 7, .alloc [.v (.int .i64 0), .v (.int .u64 0)], none⟩, ⟨none, .store 2 (.t 6) (.t 30) 6, none⟩, ⟨none, .store 2 (.t 7) (.t 31) 7, none⟩, ⟨some 8, .mv (.t 32), none⟩])
 (.seq (.region [⟨some 34, .load true 2 (.t 6) (some 6), none⟩, ⟨some 35, .call 56 [(.t 34)], none⟩, ⟨some 33, .mv (.t 35), none⟩, ⟨some 36, .ext (.t 33) 0, none⟩, ⟨some 37, .ext (.t 33) 1, none⟩, ⟨some 9, .mv (.t 36), none⟩, ⟨some 10, .mv (.t 37), none⟩])
 (.seq (.seq (.region [⟨some 38, .load true 2 (.t 7) (some 7), none⟩, ⟨some 39, .build [.v (.int .i64 0), .v (.int .u64 0)] [], none⟩, ⟨some 40, .eqs true [.i64, .u64] (.t 38) (.t 39), none⟩])
 (.cond (.t 40)
 (.region [⟨some 41, .mv (.t 9), none⟩, ⟨some 42, .bin .add (.t 41) (.k (.int .i64 1)), none⟩, ⟨some 9, .mv (.t 42), none⟩])
 .skip))
 (.seq (.seq (.region [⟨some 43, .mv (.t 9), none⟩, ⟨some 44, .bin .eql (.t 43) (.k (.int .i64 1000000000000000000)), none⟩, ⟨some 45, .mv (.t 44), none⟩, ⟨some 46, .mv (.t 9), some (45, false)⟩, ⟨some 47, .mv (.t 1), some (45, false)⟩, ⟨some 48, .call 115 [(.t 46), (.t 47)], some (45, false)⟩, ⟨some 49, .load true 2 (.t 2) (some 2), some (45, false)⟩, ⟨some 50, .eqs true [.i64, .u64] (.t 48) (.t 49), some (45, false)⟩, ⟨some 51, .pick (.t 45) (.k (.bool true)) (.t 50), none⟩])
 (.cond (.t 51)
 (.seq (.region [⟨some 4, .mv (.k (.int .i64 0)), none⟩, ⟨some 5, .mv (.k (.int .i64 13)), none⟩])
 .ret)
 .skip))
 (.seq (.region [⟨some 52, .mv (.t 9), none⟩, ⟨some 4, .mv (.t 52), none⟩, ⟨some 5, .mv (.k (.int .i64 0)), none⟩])
 .ret)))))))⟩
theorem frac_Decode.chk : chkFn Try.prog Try.f91 frac_Decode.c = true := by kernel_rfl
theorem frac_Decode.ent : ∀ args w, (callFunc 91 args).run Try.prog w = .ok (.enter 91 args) w := enters Try.func91 (by kernel_rfl) (by kernel_rfl)

/-- epact/ntp.seconds -/
def ntp_seconds.c : SF := ⟨12, [.c 2 true 2],
 (.seq (.region [⟨some 1, .box (.t 0), none⟩, ⟨some 2, .alloc [.v (.int .i64 0), .v (.int .u64 0)], none⟩])
 (.seq (.region [⟨some 6, .load true 2 (.t 1) (some 1), none⟩, ⟨some 7, .call 55 [(.k (.int .i64 1000000000000000000))], none⟩, ⟨some 8, .call 65 [(.t 6), (.t 7)], none⟩, ⟨some 5, .mv (.t 8), none⟩, ⟨some 9, .ext (.t 5) 0, none⟩, ⟨some 10, .ext (.t 5) 1, none⟩, ⟨some 3, .alloc [.v (.int .i64 0), .v (.int .u64 0)], none⟩, ⟨none, .store 2 (.t 3) (.t 9) 3, none⟩, ⟨some 4, .mv (.t 10), none⟩])
 (.seq (.region [⟨some 11, .load true 2 (.t 3) (some 3), none⟩, ⟨none, .store 2 (.t 2) (.t 11) 2, none⟩])
 .ret)))⟩
theorem ntp_seconds.chk : chkFn Try.prog Try.f92 ntp_seconds.c = true := by kernel_rfl
theorem ntp_seconds.ent : ∀ args w, (callFunc 92 args).run Try.prog w = .ok (.enter 92 args) w := enters Try.func92 (by kernel_rfl) (by kernel_rfl)

/-- epact/epactref19.Least -/
def epactref19_Least.l1 : SC :=
 (.seq (.seq (.region [⟨some 9, .mv (.t 6), none⟩, ⟨some 10, .mv (.t 7), none⟩, ⟨some 11, .bin .lss (.t 9) (.t 10), none⟩])
 (.cond (.t 11)
 .skip
 (.exit 0)))
 (.block 1
 (.seq (.region [⟨some 12, .mv (.t 6), none⟩, ⟨some 13, .mv (.t 7), none⟩, ⟨some 14, .bin .add (.t 12) (.t 13), none⟩, ⟨some 15, .bin .quo (.t 14) (.k (.int .i64 2)), none⟩, ⟨some 8, .mv (.t 15), none⟩])
 (.seq (.region [⟨some 16, .mv (.t 8), none⟩, ⟨some 17, .mv (.t 1), none⟩, ⟨some 18, .call 90 [(.t 16), (.t 17)], none⟩, ⟨some 19, .load true 2 (.t 2) (some 2), none⟩, ⟨some 20, .call 48 [(.t 18), (.t 19)], none⟩, ⟨some 21, .bin .geq (.t 20) (.k (.int .i64 0)), none⟩])
 (.cond (.t 21)
 (.region [⟨some 22, .mv (.t 8), none⟩, ⟨some 7, .mv (.t 22), none⟩])
 (.region [⟨some 23, .mv (.t 8), none⟩, ⟨some 24, .bin .add (.t 23) (.k (.int .i64 1)), none⟩, ⟨some 6, .mv (.t 24), none⟩]))))))
def epactref19_Least.c : SF := ⟨36, [.t 4, .t 5],
 (.seq (.region [⟨some 2, .box (.t 0), none⟩, ⟨some 4, .mv (.k (.int .i64 0)), none⟩, ⟨some 5, .mv (.k (.bool false)), none⟩])
 (.seq (.region [⟨some 6, .mv (.k (.int .i64 0)), none⟩, ⟨some 7, .mv (.k (.int .i64 1000000000000000000)), none⟩])
 (.seq (.block 0
 (.loop epactref19_Least.l1))
 (.seq (.seq (.region [⟨some 25, .mv (.t 6), none⟩, ⟨some 26, .bin .eql (.t 25) (.k (.int .i64 1000000000000000000)), none⟩, ⟨some 27, .mv (.t 26), none⟩, ⟨some 28, .mv (.t 6), some (27, false)⟩, ⟨some 29, .mv (.t 1), some (27, false)⟩, ⟨some 30, .call 90 [(.t 28), (.t 29)], some (27, false)⟩, ⟨some 31, .load true 2 (.t 2) (some 2), some (27, false)⟩, ⟨some 32, .call 27 [(.t 30), (.t 31)], some (27, false)⟩, ⟨some 33, .not (.t 32), some (27, false)⟩, ⟨some 34, .pick (.t 27) (.k (.bool true)) (.t 33), none⟩])
 (.cond (.t 34)
 (.seq (.region [⟨some 4, .mv (.k (.int .i64 0)), none⟩, ⟨some 5, .mv (.k (.bool false)), none⟩])
 .ret)
 .skip))
 (.seq (.region [⟨some 35, .mv (.t 6), none⟩, ⟨some 4, .mv (.t 35), none⟩, ⟨some 5, .mv (.k (.bool true)), none⟩])
 .ret)))))⟩
theorem epactref19_Least.chk : chkFn Try.prog Try.f93 epactref19_Least.c = true := by kernel_rfl
theorem epactref19_Least.ent : ∀ args w, (callFunc 93 args).run Try.prog w = .ok (.enter 93 args) w := enters Try.func93 (by kernel_rfl) (by kernel_rfl)

/-- epact/epactref19.Seconds -/
def epactref19_Seconds.c : SF := ⟨6, [.c 2 true 2],
 (.seq (.region [⟨some 1, .box (.t 0), none⟩, ⟨some 2, .alloc [.v (.bool false), .nil .i64], none⟩])
 (.seq (.region [⟨some 3, .load true 2 (.t 1) (some 1), none⟩, ⟨some 4, .call 24 [(.k (.int .i64 1000000000000000000))], none⟩, ⟨some 5, .call 33 [(.t 3), (.t 4)], none⟩, ⟨none, .store 2 (.t 2) (.t 5) 2, none⟩])
 .ret))⟩
theorem epactref19_Seconds.chk : chkFn Try.prog Try.f94 epactref19_Seconds.c = true := by kernel_rfl
theorem epactref19_Seconds.ent : ∀ args w, (callFunc 94 args).run Try.prog w = .ok (.enter 94 args) w := enters Try.func94 (by kernel_rfl) (by kernel_rfl)

/-- epact/epactref01.cmp -/
def epactref01_cmp.l1 : SC :=
 (.seq (.seq (.region [⟨some 19, .mv (.t 5), none⟩, ⟨some 20, .bin .geq (.t 19) (.k (.int .i64 0)), none⟩])
 (.cond (.t 20)
 .skip
 (.exit 0)))
 (.seq (.block 1
 (.seq (.seq (.region [⟨some 23, .mv (.t 0), none⟩, ⟨some 24, .mv (.t 5), none⟩, ⟨some 25, .idx 1 (.t 23) (.t 24), none⟩, ⟨some 26, .load false 1 (.t 25) none, none⟩, ⟨some 27, .mv (.t 1), none⟩, ⟨some 28, .mv (.t 5), none⟩, ⟨some 29, .idx 1 (.t 27) (.t 28), none⟩, ⟨some 30, .load false 1 (.t 29) none, none⟩, ⟨some 31, .bin .lss (.t 26) (.t 30), none⟩])
 (.cond (.t 31)
 (.seq (.region [⟨some 4, .mv (.k (.int .i64 (-1))), none⟩])
 .ret)
 .skip))
 (.seq (.region [⟨some 32, .mv (.t 0), none⟩, ⟨some 33, .mv (.t 5), none⟩, ⟨some 34, .idx 1 (.t 32) (.t 33), none⟩, ⟨some 35, .load false 1 (.t 34) none, none⟩, ⟨some 36, .mv (.t 1), none⟩, ⟨some 37, .mv (.t 5), none⟩, ⟨some 38, .idx 1 (.t 36) (.t 37), none⟩, ⟨some 39, .load false 1 (.t 38) none, none⟩, ⟨some 40, .bin .gtr (.t 35) (.t 39), none⟩])
 (.cond (.t 40)
 (.seq (.region [⟨some 4, .mv (.k (.int .i64 1)), none⟩])
 .ret)
 .skip))))
 (.region [⟨some 21, .mv (.t 5), none⟩, ⟨some 22, .bin .sub (.t 21) (.k (.int .i64 1)), none⟩, ⟨some 5, .mv (.t 22), none⟩])))
def epactref01_cmp.c : SF := ⟨41, [.t 4],
 (.seq (.region [⟨some 4, .mv (.k (.int .i64 0)), none⟩])
 (.seq (.seq (.region [⟨some 6, .mv (.t 0), none⟩, ⟨some 7, .len (.t 6), none⟩, ⟨some 8, .mv (.t 1), none⟩, ⟨some 9, .len (.t 8), none⟩, ⟨some 10, .bin .neq (.t 7) (.t 9), none⟩])
 (.cond (.t 10)
 (.seq (.seq (.region [⟨some 11, .mv (.t 0), none⟩, ⟨some 12, .len (.t 11), none⟩, ⟨some 13, .mv (.t 1), none⟩, ⟨some 14, .len (.t 13), none⟩, ⟨some 15, .bin .lss (.t 12) (.t 14), none⟩])
 (.cond (.t 15)
 (.seq (.region [⟨some 4, .mv (.k (.int .i64 (-1))), none⟩])
 .ret)
 .skip))
 (.seq (.region [⟨some 4, .mv (.k (.int .i64 1)), none⟩])
 .ret))
 .skip))
 (.seq (.seq (.region [⟨some 16, .mv (.t 0), none⟩, ⟨some 17, .len (.t 16), none⟩, ⟨some 18, .bin .sub (.t 17) (.k (.int .i64 1)), none⟩, ⟨some 5, .mv (.t 18), none⟩])
 (.block 0
 (.loop epactref01_cmp.l1)))
 (.seq (.region [⟨some 4, .mv (.k (.int .i64 0)), none⟩])
 .ret))))⟩
theorem epactref01_cmp.chk : chkFn Try.prog Try.f95 epactref01_cmp.c = true := by kernel_rfl
theorem epactref01_cmp.ent : ∀ args w, (callFunc 95 args).run Try.prog w = .ok (.enter 95 args) w := enters Try.func95 (by kernel_rfl) (by kernel_rfl)

/-- epact/cuc.may -/
def cuc_may.c : SF := ⟨19, [.t 4],
 (.seq (.region [⟨some 4, .mv (.k (.bool false)), none⟩])
 (.seq (.region [⟨some 5, .mv (.t 0), none⟩, ⟨some 6, .bin .geq (.t 5) (.k (.int .i64 1)), none⟩, ⟨some 7, .mv (.t 6), none⟩, ⟨some 8, .mv (.t 0), some (7, true)⟩, ⟨some 9, .bin .leq (.t 8) (.k (.int .i64 7)), some (7, true)⟩, ⟨some 10, .pick (.t 7) (.t 9) (.k (.bool false)), none⟩, ⟨some 11, .mv (.t 10), none⟩, ⟨some 12, .mv (.t 1), some (11, true)⟩, ⟨some 13, .bin .geq (.t 12) (.k (.int .i64 0)), some (11, true)⟩, ⟨some 14, .pick (.t 11) (.t 13) (.k (.bool false)), none⟩, ⟨some 15, .mv (.t 14), none⟩, ⟨some 16, .mv (.t 1), some (15, true)⟩, ⟨some 17, .bin .leq (.t 16) (.k (.int .i64 10)), some (15, true)⟩, ⟨some 18, .pick (.t 15) (.t 17) (.k (.bool false)), none⟩, ⟨some 4, .mv (.t 18), none⟩])
 .ret))⟩
theorem cuc_may.chk : chkFn Try.prog Try.f96 cuc_may.c = true := by kernel_rfl
theorem cuc_may.ent : ∀ args w, (callFunc 96 args).run Try.prog w = .ok (.enter 96 args) w := enters Try.func96 (by kernel_rfl) (by kernel_rfl)

/-- epact/cuc.era -/
def cuc_era.l1 : SC :=
 (.seq (.region [⟨some 7, .bin .lss (.t 6) (.t 5), none⟩])
 (.seq (.cond (.t 7)
 .skip
 (.exit 0))
 (.seq (.block 1
 (.region [⟨some 9, .load true 2 (.t 3) (some 3), none⟩, ⟨some 10, .call 55 [(.k (.int .i64 256))], none⟩, ⟨some 11, .call 65 [(.t 9), (.t 10)], none⟩, ⟨some 8, .mv (.t 11), none⟩, ⟨some 12, .ext (.t 8) 0, none⟩, ⟨some 13, .ext (.t 8) 1, none⟩, ⟨none, .store 2 (.t 3) (.t 12) 3, none⟩]))
 (.region [⟨some 14, .bin .add (.t 6) (.k (.int .i64 1)), none⟩, ⟨some 6, .mv (.t 14), none⟩]))))
def cuc_era.c : SF := ⟨16, [.c 2 true 2],
 (.seq (.region [⟨some 2, .alloc [.v (.int .i64 0), .v (.int .u64 0)], none⟩])
 (.seq (.region [⟨some 4, .call 55 [(.k (.int .i64 1000000000000000000))], none⟩, ⟨some 3, .alloc [.v (.int .i64 0), .v (.int .u64 0)], none⟩, ⟨none, .store 2 (.t 3) (.t 4) 3, none⟩])
 (.seq (.seq (.region [⟨some 5, .mv (.t 0), none⟩, ⟨some 6, .mv (.k (.int .i64 0)), none⟩])
 (.block 0
 (.loop cuc_era.l1)))
 (.seq (.region [⟨some 15, .load true 2 (.t 3) (some 3), none⟩, ⟨none, .store 2 (.t 2) (.t 15) 2, none⟩])
 .ret))))⟩
theorem cuc_era.chk : chkFn Try.prog Try.f97 cuc_era.c = true := by kernel_rfl
theorem cuc_era.ent : ∀ args w, (callFunc 97 args).run Try.prog w = .ok (.enter 97 args) w := enters Try.func97 (by kernel_rfl) (by kernel_rfl)

/-- epact/cuc.head -/
def cuc_head.c : SF := ⟨42, [.t 4],
 (.seq (.region [⟨some 4, .mv (.nil .u8), none⟩])
 (.seq (.region [⟨some 8, .mv (.t 0), none⟩, ⟨some 9, .min (.t 8) (.k (.int .i64 4)), none⟩, ⟨some 10, .mv (.t 1), none⟩, ⟨some 11, .min (.t 10) (.k (.int .i64 3)), none⟩, ⟨some 5, .mv (.t 9), none⟩, ⟨some 6, .mv (.t 11), none⟩])
 (.seq (.region [⟨some 12, .mv (.t 5), none⟩, ⟨some 13, .bin .sub (.t 12) (.k (.int .i64 1)), none⟩, ⟨some 14, .bin .mul (.t 13) (.k (.int .i64 4)), none⟩, ⟨some 15, .bin .add (.k (.int .i64 16)) (.t 14), none⟩, ⟨some 16, .mv (.t 6), none⟩, ⟨some 17, .bin .add (.t 15) (.t 16), none⟩, ⟨some 18, .cvt .u8 (.t 17), none⟩, ⟨some 7, .mv (.t 18), none⟩])
 (.seq (.seq (.region [⟨some 19, .mv (.t 5), none⟩, ⟨some 20, .mv (.t 0), none⟩, ⟨some 21, .bin .eql (.t 19) (.t 20), none⟩, ⟨some 22, .mv (.t 21), none⟩, ⟨some 23, .mv (.t 6), some (22, true)⟩, ⟨some 24, .mv (.t 1), some (22, true)⟩, ⟨some 25, .bin .eql (.t 23) (.t 24), some (22, true)⟩, ⟨some 26, .pick (.t 22) (.t 25) (.k (.bool false)), none⟩])
 (.cond (.t 26)
 (.seq (.region [⟨some 27, .mv (.t 7), none⟩, ⟨some 28, .bldS ⟨5, 1, some .u8⟩ [.v (.int .u8 0)] 1 [(0, 1, (.t 27))], none⟩, ⟨some 4, .mv (.t 28), none⟩])
 .ret)
 .skip))
 (.seq (.region [⟨some 29, .mv (.t 7), none⟩, ⟨some 30, .bin .add (.t 29) (.k (.int .u8 128)), none⟩, ⟨some 31, .mv (.t 0), none⟩, ⟨some 32, .mv (.t 5), none⟩, ⟨some 33, .bin .sub (.t 31) (.t 32), none⟩, ⟨some 34, .bin .mul (.t 33) (.k (.int .i64 32)), none⟩, ⟨some 35, .mv (.t 1), none⟩, ⟨some 36, .mv (.t 6), none⟩, ⟨some 37, .bin .sub (.t 35) (.t 36), none⟩, ⟨some 38, .bin .mul (.t 37) (.k (.int .i64 4)), none⟩, ⟨some 39, .bin .add (.t 34) (.t 38), none⟩, ⟨some 40, .cvt .u8 (.t 39), none⟩, ⟨some 41, .bldS ⟨5, 1, some .u8⟩ [.v (.int .u8 0), .v (.int .u8 0)] 2 [(0, 1, (.t 30)), (1, 1, (.t 40))], none⟩, ⟨some 4, .mv (.t 41), none⟩])
 .ret)))))⟩
theorem cuc_head.chk : chkFn Try.prog Try.f98 cuc_head.c = true := by kernel_rfl
theorem cuc_head.ent : ∀ args w, (callFunc 98 args).run Try.prog w = .ok (.enter 98 args) w := enters Try.func98 (by kernel_rfl) (by kernel_rfl)

/-- epact/epactref19.Head -/
def epactref19_Head.c : SF := ⟨39, [.t 4],
 (.seq (.region [⟨some 4, .mv (.nil .u8), none⟩])
 (.seq (.region [⟨some 6, .mv (.t 0), none⟩, ⟨some 7, .call 116 [(.t 6), (.k (.int .i64 4))], none⟩, ⟨some 8, .bin .sub (.t 7) (.k (.int .i64 1)), none⟩, ⟨some 9, .bin .mul (.k (.int .i64 4)) (.t 8), none⟩, ⟨some 10, .bin .add (.k (.int .i64 16)) (.t 9), none⟩, ⟨some 11, .mv (.t 1), none⟩, ⟨some 12, .call 116 [(.t 11), (.k (.int .i64 3))], none⟩, ⟨some 13, .bin .add (.t 10) (.t 12), none⟩, ⟨some 5, .mv (.t 13), none⟩])
 (.seq (.seq (.region [⟨some 14, .mv (.t 0), none⟩, ⟨some 15, .bin .leq (.t 14) (.k (.int .i64 4)), none⟩, ⟨some 16, .mv (.t 15), none⟩, ⟨some 17, .mv (.t 1), some (16, true)⟩, ⟨some 18, .bin .leq (.t 17) (.k (.int .i64 3)), some (16, true)⟩, ⟨some 19, .pick (.t 16) (.t 18) (.k (.bool false)), none⟩])
 (.cond (.t 19)
 (.seq (.region [⟨some 20, .mv (.t 5), none⟩, ⟨some 21, .cvt .u8 (.t 20), none⟩, ⟨some 22, .bldS ⟨5, 1, some .u8⟩ [.v (.int .u8 0)] 1 [(0, 1, (.t 21))], none⟩, ⟨some 4, .mv (.t 22), none⟩])
 .ret)
 .skip))
 (.seq (.region [⟨some 23, .mv (.t 5), none⟩, ⟨some 24, .bin .add (.t 23) (.k (.int .i64 128)), none⟩, ⟨some 25, .cvt .u8 (.t 24), none⟩, ⟨some 26, .mv (.t 0), none⟩, ⟨some 27, .mv (.t 0), none⟩, ⟨some 28, .call 116 [(.t 27), (.k (.int .i64 4))], none⟩, ⟨some 29, .bin .sub (.t 26) (.t 28), none⟩, ⟨some 30, .bin .mul (.k (.int .i64 32)) (.t 29), none⟩, ⟨some 31, .mv (.t 1), none⟩, ⟨some 32, .mv (.t 1), none⟩, ⟨some 33, .call 116 [(.t 32), (.k (.int .i64 3))], none⟩, ⟨some 34, .bin .sub (.t 31) (.t 33), none⟩, ⟨some 35, .bin .mul (.k (.int .i64 4)) (.t 34), none⟩, ⟨some 36, .bin .add (.t 30) (.t 35), none⟩, ⟨some 37, .cvt .u8 (.t 36), none⟩, ⟨some 38, .bldS ⟨5, 1, some .u8⟩ [.v (.int .u8 0), .v (.int .u8 0)] 2 [(0, 1, (.t 25)), (1, 1, (.t 37))], none⟩, ⟨some 4, .mv (.t 38), none⟩])
 .ret))))⟩
theorem epactref19_Head.chk : chkFn Try.prog Try.f99 epactref19_Head.c = true := by kernel_rfl
theorem epactref19_Head.ent : ∀ args w, (callFunc 99 args).run Try.prog w = .ok (.enter 99 args) w := enters Try.func99 (by kernel_rfl) (by kernel_rfl)

/-- epact/cuc.widths -/
def cuc_widths.c : SF := ⟨56, [.t 2, .t 3, .t 4, .t 5],
 (.seq (.region [⟨some 2, .mv (.k (.int .i64 0)), none⟩, ⟨some 3, .mv (.k (.int .i64 0)), none⟩, ⟨some 4, .mv (.k (.int .i64 0)), none⟩, ⟨some 5, .mv (.k (.bool false)), none⟩])
 (.seq (.seq (.region [⟨some 6, .mv (.t 0), none⟩, ⟨some 7, .len (.t 6), none⟩, ⟨some 8, .bin .eql (.t 7) (.k (.int .i64 0)), none⟩])
 (.cond (.t 8)
 (.seq (.region [⟨some 2, .mv (.k (.int .i64 0)), none⟩, ⟨some 3, .mv (.k (.int .i64 0)), none⟩, ⟨some 4, .mv (.k (.int .i64 0)), none⟩, ⟨some 5, .mv (.k (.bool false)), none⟩])
 .ret)
 .skip))
 (.seq (.region [⟨some 9, .mv (.t 0), none⟩, ⟨some 10, .idx 1 (.t 9) (.k (.int .i64 0)), none⟩, ⟨some 11, .load false 1 (.t 10) none, none⟩, ⟨some 12, .bin .shr (.t 11) (.k (.int .u64 2)), none⟩, ⟨some 13, .bin .and (.t 12) (.k (.int .u8 3)), none⟩, ⟨some 14, .cvt .i64 (.t 13), none⟩, ⟨some 15, .bin .add (.t 14) (.k (.int .i64 1)), none⟩, ⟨some 16, .mv (.t 0), none⟩, ⟨some 17, .idx 1 (.t 16) (.k (.int .i64 0)), none⟩, ⟨some 18, .load false 1 (.t 17) none, none⟩, ⟨some 19, .bin .and (.t 18) (.k (.int .u8 3)), none⟩, ⟨some 20, .cvt .i64 (.t 19), none⟩, ⟨some 2, .mv (.t 15), none⟩, ⟨some 3, .mv (.t 20), none⟩, ⟨some 4, .mv (.k (.int .i64 1)), none⟩])
 (.seq (.seq (.region [⟨some 21, .mv (.t 0), none⟩, ⟨some 22, .idx 1 (.t 21) (.k (.int .i64 0)), none⟩, ⟨some 23, .load false 1 (.t 22) none, none⟩, ⟨some 24, .bin .geq (.t 23) (.k (.int .u8 128)), none⟩, ⟨some 25, .mv (.t 24), none⟩, ⟨some 26, .mv (.t 0), some (25, true)⟩, ⟨some 27, .len (.t 26), some (25, true)⟩, ⟨some 28, .bin .gtr (.t 27) (.k (.int .i64 1)), some (25, true)⟩, ⟨some 29, .pick (.t 25) (.t 28) (.k (.bool false)), none⟩])
 (.cond (.t 29)
 (.region [⟨some 30, .mv (.t 2), none⟩, ⟨some 31, .mv (.t 0), none⟩, ⟨some 32, .idx 1 (.t 31) (.k (.int .i64 1)), none⟩, ⟨some 33, .load false 1 (.t 32) none, none⟩, ⟨some 34, .bin .shr (.t 33) (.k (.int .u64 5)), none⟩, ⟨some 35, .bin .and (.t 34) (.k (.int .u8 3)), none⟩, ⟨some 36, .cvt .i64 (.t 35), none⟩, ⟨some 37, .bin .add (.t 30) (.t 36), none⟩, ⟨some 38, .mv (.t 3), none⟩, ⟨some 39, .mv (.t 0), none⟩, ⟨some 40, .idx 1 (.t 39) (.k (.int .i64 1)), none⟩, ⟨some 41, .load false 1 (.t 40) none, none⟩, ⟨some 42, .bin .shr (.t 41) (.k (.int .u64 2)), none⟩, ⟨some 43, .bin .and (.t 42) (.k (.int .u8 7)), none⟩, ⟨some 44, .cvt .i64 (.t 43), none⟩, ⟨some 45, .bin .add (.t 38) (.t 44), none⟩, ⟨some 2, .mv (.t 37), none⟩, ⟨some 3, .mv (.t 45), none⟩, ⟨some 4, .mv (.k (.int .i64 2)), none⟩])
 .skip))
 (.seq (.region [⟨some 46, .mv (.t 2), none⟩, ⟨some 47, .mv (.t 3), none⟩, ⟨some 48, .mv (.t 4), none⟩, ⟨some 49, .mv (.t 0), none⟩, ⟨some 50, .mv (.t 4), none⟩, ⟨some 51, .sl (.t 49) none (some (.t 50)), none⟩, ⟨some 52, .mv (.t 2), none⟩, ⟨some 53, .mv (.t 3), none⟩, ⟨some 54, .call 98 [(.t 52), (.t 53)], none⟩, ⟨some 55, .call 117 [(.t 51), (.t 54)], none⟩, ⟨some 2, .mv (.t 46), none⟩, ⟨some 3, .mv (.t 47), none⟩, ⟨some 4, .mv (.t 48), none⟩, ⟨some 5, .mv (.t 55), none⟩])
 .ret)))))⟩
theorem cuc_widths.chk : chkFn Try.prog Try.f100 cuc_widths.c = true := by kernel_rfl
theorem cuc_widths.ent : ∀ args w, (callFunc 100 args).run Try.prog w = .ok (.enter 100 args) w := enters Try.func100 (by kernel_rfl) (by kernel_rfl)

/-- epact/wide.MulDiv -/
def wide_MulDiv.c : SF := ⟨91, [.c 6 true 2, .c 7 true 2, .t 8],
 (.seq (.region [⟨some 3, .box (.t 0), none⟩, ⟨some 4, .box (.t 1), none⟩, ⟨some 5, .box (.t 2), none⟩, ⟨some 6, .alloc [.v (.int .i64 0), .v (.int .u64 0)], none⟩, ⟨some 7, .alloc [.v (.int .i64 0), .v (.int .u64 0)], none⟩, ⟨some 8, .mv (.k (.int .i64 0)), none⟩])
 (.seq (.seq (.region [⟨some 17, .load true 2 (.t 5) (some 5), none⟩, ⟨some 18, .call 118 [(.t 17)], none⟩, ⟨some 19, .not (.t 18), none⟩])
 (.cond (.t 19)
 (.seq (.region [⟨some 20, .load true 2 (.t 6) (some 6), none⟩, ⟨some 21, .load true 2 (.t 7) (some 7), none⟩, ⟨none, .store 2 (.t 6) (.t 20) 6, none⟩, ⟨none, .store 2 (.t 7) (.t 21) 7, none⟩, ⟨some 8, .mv (.k (.int .i64 3)), none⟩])
 .ret)
 .skip))
 (.seq (.region [⟨some 23, .load true 2 (.t 3) (some 3), none⟩, ⟨some 24, .call 105 [(.t 23)], none⟩, ⟨some 25, .load true 2 (.t 4) (some 4), none⟩, ⟨some 26, .call 105 [(.t 25)], none⟩, ⟨some 27, .call 104 [(.t 24), (.t 26)], none⟩, ⟨some 22, .mv (.t 27), none⟩, ⟨some 28, .ext (.t 22) 0, none⟩, ⟨some 29, .ext (.t 22) 1, none⟩, ⟨some 9, .alloc [.v (.int .u64 0), .v (.int .u64 0)], none⟩, ⟨some 10, .alloc [.v (.int .u64 0), .v (.int .u64 0)], none⟩, ⟨none, .store 2 (.t 9) (.t 28) 9, none⟩, ⟨none, .store 2 (.t 10) (.t 29) 10, none⟩])
 (.seq (.region [⟨some 31, .load true 2 (.t 9) (some 9), none⟩, ⟨some 32, .load true 2 (.t 10) (some 10), none⟩, ⟨some 33, .load true 2 (.t 5) (some 5), none⟩, ⟨some 34, .call 111 [(.t 33)], none⟩, ⟨some 35, .call 119 [(.t 31), (.t 32), (.t 34)], none⟩, ⟨some 30, .mv (.t 35), none⟩, ⟨some 36, .ext (.t 30) 0, none⟩, ⟨some 37, .ext (.t 30) 1, none⟩, ⟨some 38, .ext (.t 30) 2, none⟩, ⟨some 11, .alloc [.v (.int .u64 0), .v (.int .u64 0)], none⟩, ⟨some 12, .alloc [.v (.int .u64 0), .v (.int .u64 0)], none⟩, ⟨none, .store 2 (.t 11) (.t 36) 11, none⟩, ⟨none, .store 2 (.t 12) (.t 37) 12, none⟩, ⟨some 13, .mv (.t 38), none⟩])
 (.seq (.seq (.region [⟨some 39, .mv (.t 13), none⟩, ⟨some 40, .not (.t 39), none⟩])
 (.cond (.t 40)
 (.seq (.region [⟨some 41, .load true 2 (.t 6) (some 6), none⟩, ⟨some 42, .load true 2 (.t 7) (some 7), none⟩, ⟨none, .store 2 (.t 6) (.t 41) 6, none⟩, ⟨none, .store 2 (.t 7) (.t 42) 7, none⟩, ⟨some 8, .mv (.k (.int .i64 2)), none⟩])
 .ret)
 .skip))
 (.seq (.region [⟨some 43, .fld 0 (.t 3), none⟩, ⟨some 44, .load false 1 (.t 43) (some 3), none⟩, ⟨some 45, .bin .lss (.t 44) (.k (.int .i64 0)), none⟩, ⟨some 46, .fld 0 (.t 4), none⟩, ⟨some 47, .load false 1 (.t 46) (some 4), none⟩, ⟨some 48, .bin .lss (.t 47) (.k (.int .i64 0)), none⟩, ⟨some 49, .eqb true (.t 45) (.t 48), none⟩, ⟨some 14, .mv (.t 49), none⟩])
 (.seq (.region [⟨some 51, .load true 2 (.t 11) (some 11), none⟩, ⟨some 52, .mv (.t 14), none⟩, ⟨some 53, .call 106 [(.t 51), (.t 52)], none⟩, ⟨some 50, .mv (.t 53), none⟩, ⟨some 54, .ext (.t 50) 0, none⟩, ⟨some 55, .ext (.t 50) 1, none⟩, ⟨none, .store 2 (.t 6) (.t 54) 6, none⟩, ⟨some 8, .mv (.t 55), none⟩])
 (.seq (.seq (.region [⟨some 56, .mv (.t 8), none⟩, ⟨some 57, .bin .neq (.t 56) (.k (.int .i64 0)), none⟩])
 (.cond (.t 57)
 (.seq (.region [⟨some 58, .load true 2 (.t 6) (some 6), none⟩, ⟨some 59, .load true 2 (.t 7) (some 7), none⟩, ⟨some 60, .mv (.t 8), none⟩, ⟨none, .store 2 (.t 6) (.t 58) 6, none⟩, ⟨none, .store 2 (.t 7) (.t 59) 7, none⟩, ⟨some 8, .mv (.t 60), none⟩])
 .ret)
 .skip))
 (.seq (.seq (.region [⟨some 61, .mv (.t 14), none⟩, ⟨some 62, .not (.t 61), none⟩, ⟨some 63, .mv (.t 62), none⟩, ⟨some 64, .load true 2 (.t 12) (some 12), some (63, false)⟩, ⟨some 65, .build [.v (.int .u64 0), .v (.int .u64 0)] [], some (63, false)⟩, ⟨some 66, .eqs false [.u64, .u64] (.t 64) (.t 65), some (63, false)⟩, ⟨some 67, .pick (.t 63) (.k (.bool true)) (.t 66), none⟩])
 (.cond (.t 67)
 (.seq (.region [⟨some 68, .load true 2 (.t 6) (some 6), none⟩, ⟨some 69, .load true 2 (.t 12) (some 12), none⟩, ⟨some 70, .call 112 [(.t 69)], none⟩, ⟨none, .store 2 (.t 6) (.t 68) 6, none⟩, ⟨none, .store 2 (.t 7) (.t 70) 7, none⟩, ⟨some 8, .mv (.k (.int .i64 0)), none⟩])
 .ret)
 .skip))
 (.seq (.seq (.region [⟨some 71, .load true 2 (.t 6) (some 6), none⟩, ⟨some 72, .call 120 [(.t 71)], none⟩])
 (.cond (.t 72)
 (.seq (.region [⟨some 73, .build [.v (.int .i64 0), .v (.int .u64 0)] [], none⟩, ⟨some 74, .build [.v (.int .i64 0), .v (.int .u64 0)] [], none⟩, ⟨none, .store 2 (.t 6) (.t 73) 6, none⟩, ⟨none, .store 2 (.t 7) (.t 74) 7, none⟩, ⟨some 8, .mv (.k (.int .i64 2)), none⟩])
 .ret)
 .skip))
 (.seq (.region [⟨some 76, .load true 2 (.t 6) (some 6), none⟩, ⟨some 77, .call 55 [(.k (.int .i64 1))], none⟩, ⟨some 78, .call 114 [(.t 76), (.t 77)], none⟩, ⟨some 75, .mv (.t 78), none⟩, ⟨some 79, .ext (.t 75) 0, none⟩, ⟨some 80, .ext (.t 75) 1, none⟩, ⟨none, .store 2 (.t 6) (.t 79) 6, none⟩])
 (.seq (.region [⟨some 82, .load true 2 (.t 5) (some 5), none⟩, ⟨some 83, .call 111 [(.t 82)], none⟩, ⟨some 84, .load true 2 (.t 12) (some 12), none⟩, ⟨some 85, .call 121 [(.t 83), (.t 84)], none⟩, ⟨some 81, .mv (.t 85), none⟩, ⟨some 86, .ext (.t 81) 0, none⟩, ⟨some 87, .ext (.t 81) 1, none⟩, ⟨some 15, .alloc [.v (.int .u64 0), .v (.int .u64 0)], none⟩, ⟨none, .store 2 (.t 15) (.t 86) 15, none⟩, ⟨some 16, .mv (.t 87), none⟩])
 (.seq (.region [⟨some 88, .load true 2 (.t 6) (some 6), none⟩, ⟨some 89, .load true 2 (.t 15) (some 15), none⟩, ⟨some 90, .call 112 [(.t 89)], none⟩, ⟨none, .store 2 (.t 6) (.t 88) 6, none⟩, ⟨none, .store 2 (.t 7) (.t 90) 7, none⟩, ⟨some 8, .mv (.k (.int .i64 0)), none⟩])
 .ret)))))))))))))⟩
theorem wide_MulDiv.chk : chkFn Try.prog Try.f101 wide_MulDiv.c = true := by kernel_rfl
theorem wide_MulDiv.ent : ∀ args w, (callFunc 101 args).run Try.prog w = .ok (.enter 101 args) w := enters Try.func101 (by kernel_rfl) (by kernel_rfl)

/-- epact/epactref01.add -/
def epactref01_add.l1 : SC :=
 (.seq (.seq (.region [⟨some 8, .mv (.t 7), none⟩, ⟨some 9, .mv (.t 0), none⟩, ⟨some 10, .len (.t 9), none⟩, ⟨some 11, .bin .lss (.t 8) (.t 10), none⟩, ⟨some 12, .mv (.t 11), none⟩, ⟨some 13, .mv (.t 7), some (12, false)⟩, ⟨some 14, .mv (.t 1), some (12, false)⟩, ⟨some 15, .len (.t 14), some (12, false)⟩, ⟨some 16, .bin .lss (.t 13) (.t 15), some (12, false)⟩, ⟨some 17, .pick (.t 12) (.k (.bool true)) (.t 16), none⟩, ⟨some 18, .mv (.t 17), none⟩, ⟨some 19, .mv (.t 6), some (18, false)⟩, ⟨some 20, .bin .gtr (.t 19) (.k (.int .i64 0)), some (18, false)⟩, ⟨some 21, .pick (.t 18) (.k (.bool true)) (.t 20), none⟩])
 (.cond (.t 21)
 .skip
 (.exit 0)))
 (.seq (.block 1
 (.seq (.seq (.region [⟨some 24, .mv (.t 7), none⟩, ⟨some 25, .mv (.t 0), none⟩, ⟨some 26, .len (.t 25), none⟩, ⟨some 27, .bin .lss (.t 24) (.t 26), none⟩])
 (.cond (.t 27)
 (.region [⟨some 28, .mv (.t 6), none⟩, ⟨some 29, .mv (.t 0), none⟩, ⟨some 30, .mv (.t 7), none⟩, ⟨some 31, .idx 1 (.t 29) (.t 30), none⟩, ⟨some 32, .load false 1 (.t 31) none, none⟩, ⟨some 33, .bin .add (.t 28) (.t 32), none⟩, ⟨some 6, .mv (.t 33), none⟩])
 .skip))
 (.seq (.seq (.region [⟨some 34, .mv (.t 7), none⟩, ⟨some 35, .mv (.t 1), none⟩, ⟨some 36, .len (.t 35), none⟩, ⟨some 37, .bin .lss (.t 34) (.t 36), none⟩])
 (.cond (.t 37)
 (.region [⟨some 38, .mv (.t 6), none⟩, ⟨some 39, .mv (.t 1), none⟩, ⟨some 40, .mv (.t 7), none⟩, ⟨some 41, .idx 1 (.t 39) (.t 40), none⟩, ⟨some 42, .load false 1 (.t 41) none, none⟩, ⟨some 43, .bin .add (.t 38) (.t 42), none⟩, ⟨some 6, .mv (.t 43), none⟩])
 .skip))
 (.seq (.region [⟨some 44, .mv (.t 5), none⟩, ⟨some 45, .mv (.t 6), none⟩, ⟨some 46, .bin .rem (.t 45) (.k (.int .i64 65536)), none⟩, ⟨some 47, .bldS ⟨3, 1, some .i64⟩ [.v (.int .i64 0)] 1 [(0, 1, (.t 46))], none⟩, ⟨some 48, .app ⟨3, 1, some .i64⟩ (.t 44) (.t 47), none⟩, ⟨some 5, .mv (.t 48), none⟩])
 (.region [⟨some 49, .mv (.t 6), none⟩, ⟨some 50, .bin .quo (.t 49) (.k (.int .i64 65536)), none⟩, ⟨some 6, .mv (.t 50), none⟩])))))
 (.region [⟨some 22, .mv (.t 7), none⟩, ⟨some 23, .bin .add (.t 22) (.k (.int .i64 1)), none⟩, ⟨some 7, .mv (.t 23), none⟩])))
def epactref01_add.c : SF := ⟨53, [.t 4],
 (.seq (.region [⟨some 4, .mv (.nil .i64), none⟩])
 (.seq (.region [⟨some 5, .mv (.nil .i64), none⟩])
 (.seq (.region [⟨some 6, .mv (.k (.int .i64 0)), none⟩])
 (.seq (.seq (.region [⟨some 7, .mv (.k (.int .i64 0)), none⟩])
 (.block 0
 (.loop epactref01_add.l1)))
 (.seq (.region [⟨some 51, .mv (.t 5), none⟩, ⟨some 52, .callR 60 [(.t 51)], none⟩, ⟨some 4, .mv (.t 52), none⟩])
 .ret)))))⟩
theorem epactref01_add.chk : chkFn Try.prog Try.f102 epactref01_add.c = true := by kernel_rfl
theorem epactref01_add.ent : ∀ args w, (callFunc 102 args).run Try.prog w = .ok (.enter 102 args) w := enters Try.func102 (by kernel_rfl) (by kernel_rfl)

/-- epact/epactref01.word -/
def epactref01_word.l1 : SC :=
 (.seq (.seq (.region [⟨some 7, .mv (.t 6), none⟩, ⟨some 8, .bin .geq (.t 7) (.k (.int .i64 0)), none⟩])
 (.cond (.t 8)
 .skip
 (.exit 0)))
 (.seq (.block 1
 (.seq (.region [⟨some 11, .mv (.t 5), none⟩, ⟨some 12, .bin .shl (.t 11) (.k (.int .u64 16)), none⟩, ⟨some 5, .mv (.t 12), none⟩])
 (.seq (.region [⟨some 13, .mv (.t 1), none⟩, ⟨some 14, .mv (.t 6), none⟩, ⟨some 15, .bin .add (.t 13) (.t 14), none⟩, ⟨some 16, .mv (.t 0), none⟩, ⟨some 17, .len (.t 16), none⟩, ⟨some 18, .bin .lss (.t 15) (.t 17), none⟩])
 (.cond (.t 18)
 (.region [⟨some 19, .mv (.t 5), none⟩, ⟨some 20, .mv (.t 0), none⟩, ⟨some 21, .mv (.t 1), none⟩, ⟨some 22, .mv (.t 6), none⟩, ⟨some 23, .bin .add (.t 21) (.t 22), none⟩, ⟨some 24, .idx 1 (.t 20) (.t 23), none⟩, ⟨some 25, .load false 1 (.t 24) none, none⟩, ⟨some 26, .cvt .u64 (.t 25), none⟩, ⟨some 27, .bin .add (.t 19) (.t 26), none⟩, ⟨some 5, .mv (.t 27), none⟩])
 .skip))))
 (.region [⟨some 9, .mv (.t 6), none⟩, ⟨some 10, .bin .sub (.t 9) (.k (.int .i64 1)), none⟩, ⟨some 6, .mv (.t 10), none⟩])))
def epactref01_word.c : SF := ⟨29, [.t 4],
 (.seq (.region [⟨some 4, .mv (.k (.int .u64 0)), none⟩])
 (.seq (.region [⟨some 5, .mv (.k (.int .u64 0)), none⟩])
 (.seq (.seq (.region [⟨some 6, .mv (.k (.int .i64 3)), none⟩])
 (.block 0
 (.loop epactref01_word.l1)))
 (.seq (.region [⟨some 28, .mv (.t 5), none⟩, ⟨some 4, .mv (.t 28), none⟩])
 .ret))))⟩
theorem epactref01_word.chk : chkFn Try.prog Try.f103 epactref01_word.c = true := by kernel_rfl
theorem epactref01_word.ent : ∀ args w, (callFunc 103 args).run Try.prog w = .ok (.enter 103 args) w := enters Try.func103 (by kernel_rfl) (by kernel_rfl)

/-- epact/wide.size -/
def wide_size.c : SF := ⟨18, [.c 2 true 2],
 (.seq (.region [⟨some 1, .box (.t 0), none⟩, ⟨some 2, .alloc [.v (.int .u64 0), .v (.int .u64 0)], none⟩])
 (.seq (.seq (.region [⟨some 5, .fld 0 (.t 1), none⟩, ⟨some 6, .load false 1 (.t 5) (some 1), none⟩, ⟨some 7, .bin .geq (.t 6) (.k (.int .i64 0)), none⟩])
 (.cond (.t 7)
 (.seq (.region [⟨some 8, .load true 2 (.t 1) (some 1), none⟩, ⟨some 9, .call 111 [(.t 8)], none⟩, ⟨none, .store 2 (.t 2) (.t 9) 2, none⟩])
 .ret)
 .skip))
 (.seq (.region [⟨some 11, .build [.v (.int .u64 0), .v (.int .u64 0)] [], none⟩, ⟨some 12, .load true 2 (.t 1) (some 1), none⟩, ⟨some 13, .call 111 [(.t 12)], none⟩, ⟨some 14, .call 121 [(.t 11), (.t 13)], none⟩, ⟨some 10, .mv (.t 14), none⟩, ⟨some 15, .ext (.t 10) 0, none⟩, ⟨some 16, .ext (.t 10) 1, none⟩, ⟨some 3, .alloc [.v (.int .u64 0), .v (.int .u64 0)], none⟩, ⟨none, .store 2 (.t 3) (.t 15) 3, none⟩, ⟨some 4, .mv (.t 16), none⟩])
 (.seq (.region [⟨some 17, .load true 2 (.t 3) (some 3), none⟩, ⟨none, .store 2 (.t 2) (.t 17) 2, none⟩])
 .ret))))⟩
theorem wide_size.chk : chkFn Try.prog Try.f105 wide_size.c = true := by kernel_rfl
theorem wide_size.ent : ∀ args w, (callFunc 105 args).run Try.prog w = .ok (.enter 105 args) w := enters Try.func105 (by kernel_rfl) (by kernel_rfl)

/-- epact/wide.signed -/
def wide_signed.c : SF := ⟨38, [.c 4 true 2, .t 5],
 (.seq (.region [⟨some 2, .box (.t 0), none⟩, ⟨some 4, .alloc [.v (.int .i64 0), .v (.int .u64 0)], none⟩, ⟨some 5, .mv (.k (.int .i64 0)), none⟩])
 (.seq (.region [⟨some 9, .build [.v (.int .u64 0), .v (.int .u64 0)] [(0, 1, (.k (.int .u64 9223372036854775808)))], none⟩, ⟨some 6, .alloc [.v (.int .u64 0), .v (.int .u64 0)], none⟩, ⟨none, .store 2 (.t 6) (.t 9) 6, none⟩])
 (.seq (.block 0
 (.seq (.region [⟨some 11, .mv (.t 1), none⟩, ⟨some 12, .mv (.t 11), none⟩, ⟨some 13, .load true 2 (.t 2) (some 2), some (12, true)⟩, ⟨some 14, .load true 2 (.t 6) (some 6), some (12, true)⟩, ⟨some 15, .call 123 [(.t 13), (.t 14)], some (12, true)⟩, ⟨some 16, .bin .leq (.t 15) (.k (.int .i64 0)), some (12, true)⟩, ⟨some 17, .pick (.t 12) (.t 16) (.k (.bool false)), none⟩, ⟨some 10, .mv (.t 17), none⟩])
 (.cond (.t 10)
 (.seq (.region [⟨some 19, .build [.v (.int .u64 0), .v (.int .u64 0)] [], none⟩, ⟨some 20, .load true 2 (.t 2) (some 2), none⟩, ⟨some 21, .call 121 [(.t 19), (.t 20)], none⟩, ⟨some 18, .mv (.t 21), none⟩, ⟨some 22, .ext (.t 18) 0, none⟩, ⟨some 23, .ext (.t 18) 1, none⟩, ⟨some 7, .alloc [.v (.int .u64 0), .v (.int .u64 0)], none⟩, ⟨none, .store 2 (.t 7) (.t 22) 7, none⟩, ⟨some 8, .mv (.t 23), none⟩])
 (.seq (.region [⟨some 24, .load true 2 (.t 7) (some 7), none⟩, ⟨some 25, .call 112 [(.t 24)], none⟩, ⟨none, .store 2 (.t 4) (.t 25) 4, none⟩, ⟨some 5, .mv (.k (.int .i64 0)), none⟩])
 .ret))
 (.seq (.region [⟨some 27, .mv (.t 1), none⟩, ⟨some 28, .not (.t 27), none⟩, ⟨some 29, .mv (.t 28), none⟩, ⟨some 30, .load true 2 (.t 2) (some 2), some (29, true)⟩, ⟨some 31, .load true 2 (.t 6) (some 6), some (29, true)⟩, ⟨some 32, .call 123 [(.t 30), (.t 31)], some (29, true)⟩, ⟨some 33, .bin .lss (.t 32) (.k (.int .i64 0)), some (29, true)⟩, ⟨some 34, .pick (.t 29) (.t 33) (.k (.bool false)), none⟩, ⟨some 26, .mv (.t 34), none⟩])
 (.cond (.t 26)
 (.seq (.region [⟨some 35, .load true 2 (.t 2) (some 2), none⟩, ⟨some 36, .call 112 [(.t 35)], none⟩, ⟨none, .store 2 (.t 4) (.t 36) 4, none⟩, ⟨some 5, .mv (.k (.int .i64 0)), none⟩])
 .ret)
 .skip)))))
 (.seq (.region [⟨some 37, .build [.v (.int .i64 0), .v (.int .u64 0)] [], none⟩, ⟨none, .store 2 (.t 4) (.t 37) 4, none⟩, ⟨some 5, .mv (.k (.int .i64 2)), none⟩])
 .ret))))⟩
theorem wide_signed.chk : chkFn Try.prog Try.f106 wide_signed.c = true := by kernel_rfl
theorem wide_signed.ent : ∀ args w, (callFunc 106 args).run Try.prog w = .ok (.enter 106 args) w := enters Try.func106 (by kernel_rfl) (by kernel_rfl)

/-- epact/frac.below -/
def frac_below.c : SF := ⟨14, [.t 4],
 (.seq (.region [⟨some 2, .box (.t 0), none⟩, ⟨some 3, .box (.t 1), none⟩, ⟨some 4, .mv (.k (.bool false)), none⟩])
 (.seq (.region [⟨some 5, .fld 0 (.t 2), none⟩, ⟨some 6, .load false 1 (.t 5) (some 2), none⟩, ⟨some 7, .bin .geq (.t 6) (.k (.int .i64 0)), none⟩, ⟨some 8, .mv (.t 7), none⟩, ⟨some 9, .load true 2 (.t 2) (some 2), some (8, true)⟩, ⟨some 10, .load true 2 (.t 3) (some 3), some (8, true)⟩, ⟨some 11, .call 113 [(.t 9), (.t 10)], some (8, true)⟩, ⟨some 12, .bin .lss (.t 11) (.k (.int .i64 0)), some (8, true)⟩, ⟨some 13, .pick (.t 8) (.t 12) (.k (.bool false)), none⟩, ⟨some 4, .mv (.t 13), none⟩])
 .ret))⟩
theorem frac_below.chk : chkFn Try.prog Try.f107 frac_below.c = true := by kernel_rfl
theorem frac_below.ent : ∀ args w, (callFunc 107 args).run Try.prog w = .ok (.enter 107 args) w := enters Try.func107 (by kernel_rfl) (by kernel_rfl)

/-- epact/frac.power -/
def frac_power.l1 : SC :=
 (.seq (.region [⟨some 7, .bin .lss (.t 6) (.t 5), none⟩])
 (.seq (.cond (.t 7)
 .skip
 (.exit 0))
 (.seq (.block 1
 (.region [⟨some 9, .load true 2 (.t 3) (some 3), none⟩, ⟨some 10, .call 55 [(.k (.int .i64 256))], none⟩, ⟨some 11, .call 65 [(.t 9), (.t 10)], none⟩, ⟨some 8, .mv (.t 11), none⟩, ⟨some 12, .ext (.t 8) 0, none⟩, ⟨some 13, .ext (.t 8) 1, none⟩, ⟨none, .store 2 (.t 3) (.t 12) 3, none⟩]))
 (.region [⟨some 14, .bin .add (.t 6) (.k (.int .i64 1)), none⟩, ⟨some 6, .mv (.t 14), none⟩]))))
def frac_power.c : SF := ⟨16, [.c 2 true 2],
 (.seq (.region [⟨some 2, .alloc [.v (.int .i64 0), .v (.int .u64 0)], none⟩])
 (.seq (.region [⟨some 4, .call 55 [(.k (.int .i64 1))], none⟩, ⟨some 3, .alloc [.v (.int .i64 0), .v (.int .u64 0)], none⟩, ⟨none, .store 2 (.t 3) (.t 4) 3, none⟩])
 (.seq (.seq (.region [⟨some 5, .mv (.t 0), none⟩, ⟨some 6, .mv (.k (.int .i64 0)), none⟩])
 (.block 0
 (.loop frac_power.l1)))
 (.seq (.region [⟨some 15, .load true 2 (.t 3) (some 3), none⟩, ⟨none, .store 2 (.t 2) (.t 15) 2, none⟩])
 .ret))))⟩
theorem frac_power.chk : chkFn Try.prog Try.f108 frac_power.c = true := by kernel_rfl
theorem frac_power.ent : ∀ args w, (callFunc 108 args).run Try.prog w = .ok (.enter 108 args) w := enters Try.func108 (by kernel_rfl) (by kernel_rfl)

/-- slices.Grow[[]byte,byte] -/
def slices_Grow_byte_byte.c : SF := ⟨27, [.t 4],
 (.seq (.region [⟨some 4, .mv (.nil .u8), none⟩])
 (.seq (.seq (.region [⟨some 5, .mv (.t 1), none⟩, ⟨some 6, .bin .lss (.t 5) (.k (.int .i64 0)), none⟩])
 (.cond (.t 6)
 .bad
 .skip))
 (.seq (.seq (.region [⟨some 8, .mv (.t 1), none⟩, ⟨some 9, .mv (.t 0), none⟩, ⟨some 10, .cap (.t 9), none⟩, ⟨some 11, .mv (.t 0), none⟩, ⟨some 12, .len (.t 11), none⟩, ⟨some 13, .bin .sub (.t 10) (.t 12), none⟩, ⟨some 14, .bin .sub (.t 8) (.t 13), none⟩, ⟨some 1, .mv (.t 14), none⟩])
 (.seq (.region [⟨some 15, .mv (.t 1), none⟩, ⟨some 16, .bin .gtr (.t 15) (.k (.int .i64 0)), none⟩])
 (.cond (.t 16)
 (.region [⟨some 17, .mv (.t 0), none⟩, ⟨some 18, .mv (.t 0), none⟩, ⟨some 19, .cap (.t 18), none⟩, ⟨some 20, .sl (.t 17) none (some (.t 19)), none⟩, ⟨some 21, .mv (.t 1), none⟩, ⟨some 22, .appZ ⟨5, 1, some .u8⟩ (.t 20) (.t 21), none⟩, ⟨some 23, .mv (.t 0), none⟩, ⟨some 24, .len (.t 23), none⟩, ⟨some 25, .sl (.t 22) none (some (.t 24)), none⟩, ⟨some 0, .mv (.t 25), none⟩])
 .skip)))
 (.seq (.region [⟨some 26, .mv (.t 0), none⟩, ⟨some 4, .mv (.t 26), none⟩])
 .ret))))⟩
theorem slices_Grow_byte_byte.chk : chkFn Try.prog Try.f109 slices_Grow_byte_byte.c = true := by kernel_rfl
theorem slices_Grow_byte_byte.ent : ∀ args w, (callFunc 109 args).run Try.prog w = .ok (.enter 109 args) w := enters Try.func109 (by kernel_rfl) (by kernel_rfl)

/-- epact/limb.Add -/
def limb_Add.c : SF := ⟨31, [.c 4 true 2, .t 5],
 (.seq (.region [⟨some 2, .box (.t 0), none⟩, ⟨some 3, .box (.t 1), none⟩, ⟨some 4, .alloc [.v (.int .u64 0), .v (.int .u64 0)], none⟩, ⟨some 5, .mv (.k (.bool false)), none⟩])
 (.seq (.region [⟨some 10, .fld 1 (.t 2), none⟩, ⟨some 11, .load false 1 (.t 10) (some 2), none⟩, ⟨some 12, .fld 1 (.t 3), none⟩, ⟨some 13, .load false 1 (.t 12) (some 3), none⟩, ⟨some 14, .call 124 [(.t 11), (.t 13), (.k (.int .u64 0))], none⟩, ⟨some 9, .mv (.t 14), none⟩, ⟨some 15, .ext (.t 9) 0, none⟩, ⟨some 16, .ext (.t 9) 1, none⟩, ⟨some 6, .mv (.t 15), none⟩, ⟨some 7, .mv (.t 16), none⟩])
 (.seq (.region [⟨some 18, .fld 0 (.t 2), none⟩, ⟨some 19, .load false 1 (.t 18) (some 2), none⟩, ⟨some 20, .fld 0 (.t 3), none⟩, ⟨some 21, .load false 1 (.t 20) (some 3), none⟩, ⟨some 22, .mv (.t 7), none⟩, ⟨some 23, .call 124 [(.t 19), (.t 21), (.t 22)], none⟩, ⟨some 17, .mv (.t 23), none⟩, ⟨some 24, .ext (.t 17) 0, none⟩, ⟨some 25, .ext (.t 17) 1, none⟩, ⟨some 8, .mv (.t 24), none⟩, ⟨some 7, .mv (.t 25), none⟩])
 (.seq (.region [⟨some 26, .mv (.t 8), none⟩, ⟨some 27, .mv (.t 6), none⟩, ⟨some 28, .build [.v (.int .u64 0), .v (.int .u64 0)] [(0, 1, (.t 26)), (1, 1, (.t 27))], none⟩, ⟨some 29, .mv (.t 7), none⟩, ⟨some 30, .bin .eql (.t 29) (.k (.int .u64 1)), none⟩, ⟨none, .store 2 (.t 4) (.t 28) 4, none⟩, ⟨some 5, .mv (.t 30), none⟩])
 .ret))))⟩
theorem limb_Add.chk : chkFn Try.prog Try.f110 limb_Add.c = true := by kernel_rfl
theorem limb_Add.ent : ∀ args w, (callFunc 110 args).run Try.prog w = .ok (.enter 110 args) w := enters Try.func110 (by kernel_rfl) (by kernel_rfl)

/-- epact/wide.bits -/
def wide_bits.c : SF := ⟨9, [.c 2 true 2],
 (.seq (.region [⟨some 1, .box (.t 0), none⟩, ⟨some 2, .alloc [.v (.int .u64 0), .v (.int .u64 0)], none⟩])
 (.seq (.region [⟨some 3, .fld 0 (.t 1), none⟩, ⟨some 4, .load false 1 (.t 3) (some 1), none⟩, ⟨some 5, .cvt .u64 (.t 4), none⟩, ⟨some 6, .fld 1 (.t 1), none⟩, ⟨some 7, .load false 1 (.t 6) (some 1), none⟩, ⟨some 8, .build [.v (.int .u64 0), .v (.int .u64 0)] [(0, 1, (.t 5)), (1, 1, (.t 7))], none⟩, ⟨none, .store 2 (.t 2) (.t 8) 2, none⟩])
 .ret))⟩
theorem wide_bits.chk : chkFn Try.prog Try.f111 wide_bits.c = true := by kernel_rfl
theorem wide_bits.ent : ∀ args w, (callFunc 111 args).run Try.prog w = .ok (.enter 111 args) w := enters Try.func111 (by kernel_rfl) (by kernel_rfl)

/-- epact/wide.from -/
def wide_from.c : SF := ⟨9, [.c 2 true 2],
 (.seq (.region [⟨some 1, .box (.t 0), none⟩, ⟨some 2, .alloc [.v (.int .i64 0), .v (.int .u64 0)], none⟩])
 (.seq (.region [⟨some 3, .fld 0 (.t 1), none⟩, ⟨some 4, .load false 1 (.t 3) (some 1), none⟩, ⟨some 5, .cvt .i64 (.t 4), none⟩, ⟨some 6, .fld 1 (.t 1), none⟩, ⟨some 7, .load false 1 (.t 6) (some 1), none⟩, ⟨some 8, .build [.v (.int .i64 0), .v (.int .u64 0)] [(0, 1, (.t 5)), (1, 1, (.t 7))], none⟩, ⟨none, .store 2 (.t 2) (.t 8) 2, none⟩])
 .ret))⟩
theorem wide_from.chk : chkFn Try.prog Try.f112 wide_from.c = true := by kernel_rfl
theorem wide_from.ent : ∀ args w, (callFunc 112 args).run Try.prog w = .ok (.enter 112 args) w := enters Try.func112 (by kernel_rfl) (by kernel_rfl)

/-- epact/wide.Cmp -/
def wide_Cmp.c : SF := ⟨29, [.t 4],
 (.seq (.region [⟨some 2, .box (.t 0), none⟩, ⟨some 3, .box (.t 1), none⟩, ⟨some 4, .mv (.k (.int .i64 0)), none⟩])
 (.seq (.block 0
 (.seq (.region [⟨some 6, .load true 2 (.t 2) (some 2), none⟩, ⟨some 7, .load true 2 (.t 3) (some 3), none⟩, ⟨some 8, .eqs false [.i64, .u64] (.t 6) (.t 7), none⟩, ⟨some 5, .mv (.t 8), none⟩])
 (.cond (.t 5)
 (.seq (.region [⟨some 4, .mv (.k (.int .i64 0)), none⟩])
 .ret)
 (.seq (.region [⟨some 10, .fld 0 (.t 2), none⟩, ⟨some 11, .load false 1 (.t 10) (some 2), none⟩, ⟨some 12, .fld 0 (.t 3), none⟩, ⟨some 13, .load false 1 (.t 12) (some 3), none⟩, ⟨some 14, .bin .lss (.t 11) (.t 13), none⟩, ⟨some 15, .mv (.t 14), none⟩, ⟨some 16, .fld 0 (.t 2), some (15, false)⟩, ⟨some 17, .load false 1 (.t 16) (some 2), some (15, false)⟩, ⟨some 18, .fld 0 (.t 3), some (15, false)⟩, ⟨some 19, .load false 1 (.t 18) (some 3), some (15, false)⟩, ⟨some 20, .bin .eql (.t 17) (.t 19), some (15, false)⟩, ⟨some 21, .mv (.t 20), some (15, false)⟩, ⟨some 22, .fld 1 (.t 2), some (21, true)⟩, ⟨some 23, .load false 1 (.t 22) (some 2), some (21, true)⟩, ⟨some 24, .fld 1 (.t 3), some (21, true)⟩, ⟨some 25, .load false 1 (.t 24) (some 3), some (21, true)⟩, ⟨some 26, .bin .lss (.t 23) (.t 25), some (21, true)⟩, ⟨some 27, .pick (.t 21) (.t 26) (.k (.bool false)), some (15, false)⟩, ⟨some 28, .pick (.t 15) (.k (.bool true)) (.t 27), none⟩, ⟨some 9, .mv (.t 28), none⟩])
 (.cond (.t 9)
 (.seq (.region [⟨some 4, .mv (.k (.int .i64 (-1))), none⟩])
 .ret)
 .skip)))))
 (.seq (.region [⟨some 4, .mv (.k (.int .i64 1)), none⟩])
 .ret)))⟩
theorem wide_Cmp.chk : chkFn Try.prog Try.f113 wide_Cmp.c = true := by kernel_rfl
theorem wide_Cmp.ent : ∀ args w, (callFunc 113 args).run Try.prog w = .ok (.enter 113 args) w := enters Try.func113 (by kernel_rfl) (by kernel_rfl)

/-- epact/wide.Sub -/
def wide_Sub.c : SF := ⟨37, [.c 4 true 2, .t 5],
 (.seq (.region [⟨some 2, .box (.t 0), none⟩, ⟨some 3, .box (.t 1), none⟩, ⟨some 4, .alloc [.v (.int .i64 0), .v (.int .u64 0)], none⟩, ⟨some 5, .mv (.k (.int .i64 0)), none⟩])
 (.seq (.region [⟨some 10, .load true 2 (.t 2) (some 2), none⟩, ⟨some 11, .call 111 [(.t 10)], none⟩, ⟨some 12, .load true 2 (.t 3) (some 3), none⟩, ⟨some 13, .call 111 [(.t 12)], none⟩, ⟨some 14, .call 121 [(.t 11), (.t 13)], none⟩, ⟨some 9, .mv (.t 14), none⟩, ⟨some 15, .ext (.t 9) 0, none⟩, ⟨some 16, .ext (.t 9) 1, none⟩, ⟨some 6, .alloc [.v (.int .u64 0), .v (.int .u64 0)], none⟩, ⟨none, .store 2 (.t 6) (.t 15) 6, none⟩, ⟨some 7, .mv (.t 16), none⟩])
 (.seq (.region [⟨some 17, .load true 2 (.t 6) (some 6), none⟩, ⟨some 18, .call 112 [(.t 17)], none⟩, ⟨some 8, .alloc [.v (.int .i64 0), .v (.int .u64 0)], none⟩, ⟨none, .store 2 (.t 8) (.t 18) 8, none⟩])
 (.seq (.seq (.region [⟨some 19, .fld 0 (.t 2), none⟩, ⟨some 20, .load false 1 (.t 19) (some 2), none⟩, ⟨some 21, .bin .shr (.t 20) (.k (.int .u64 63)), none⟩, ⟨some 22, .fld 0 (.t 3), none⟩, ⟨some 23, .load false 1 (.t 22) (some 3), none⟩, ⟨some 24, .bin .shr (.t 23) (.k (.int .u64 63)), none⟩, ⟨some 25, .bin .neq (.t 21) (.t 24), none⟩, ⟨some 26, .mv (.t 25), none⟩, ⟨some 27, .fld 0 (.t 8), some (26, true)⟩, ⟨some 28, .load false 1 (.t 27) (some 8), some (26, true)⟩, ⟨some 29, .bin .shr (.t 28) (.k (.int .u64 63)), some (26, true)⟩, ⟨some 30, .fld 0 (.t 2), some (26, true)⟩, ⟨some 31, .load false 1 (.t 30) (some 2), some (26, true)⟩, ⟨some 32, .bin .shr (.t 31) (.k (.int .u64 63)), some (26, true)⟩, ⟨some 33, .bin .neq (.t 29) (.t 32), some (26, true)⟩, ⟨some 34, .pick (.t 26) (.t 33) (.k (.bool false)), none⟩])
 (.cond (.t 34)
 (.seq (.region [⟨some 35, .build [.v (.int .i64 0), .v (.int .u64 0)] [], none⟩, ⟨none, .store 2 (.t 4) (.t 35) 4, none⟩, ⟨some 5, .mv (.k (.int .i64 2)), none⟩])
 .ret)
 .skip))
 (.seq (.region [⟨some 36, .load true 2 (.t 8) (some 8), none⟩, ⟨none, .store 2 (.t 4) (.t 36) 4, none⟩, ⟨some 5, .mv (.k (.int .i64 0)), none⟩])
 .ret)))))⟩
theorem wide_Sub.chk : chkFn Try.prog Try.f114 wide_Sub.c = true := by kernel_rfl
theorem wide_Sub.ent : ∀ args w, (callFunc 114 args).run Try.prog w = .ok (.enter 114 args) w := enters Try.func114 (by kernel_rfl) (by kernel_rfl)

/-- epact/frac.code -/
def frac_code.c : SF := ⟨19, [.c 4 true 2],
 (.seq (.region [⟨some 4, .alloc [.v (.int .i64 0), .v (.int .u64 0)], none⟩])
 (.seq (.region [⟨some 9, .mv (.t 0), none⟩, ⟨some 10, .call 55 [(.t 9)], none⟩, ⟨some 11, .mv (.t 1), none⟩, ⟨some 12, .call 108 [(.t 11)], none⟩, ⟨some 13, .call 55 [(.k (.int .i64 1000000000000000000))], none⟩, ⟨some 14, .call 101 [(.t 10), (.t 12), (.t 13)], none⟩, ⟨some 8, .mv (.t 14), none⟩, ⟨some 15, .ext (.t 8) 0, none⟩, ⟨some 16, .ext (.t 8) 1, none⟩, ⟨some 17, .ext (.t 8) 2, none⟩, ⟨some 5, .alloc [.v (.int .i64 0), .v (.int .u64 0)], none⟩, ⟨some 6, .alloc [.v (.int .i64 0), .v (.int .u64 0)], none⟩, ⟨none, .store 2 (.t 5) (.t 15) 5, none⟩, ⟨none, .store 2 (.t 6) (.t 16) 6, none⟩, ⟨some 7, .mv (.t 17), none⟩])
 (.seq (.region [⟨some 18, .load true 2 (.t 5) (some 5), none⟩, ⟨none, .store 2 (.t 4) (.t 18) 4, none⟩])
 .ret)))⟩
theorem frac_code.chk : chkFn Try.prog Try.f115 frac_code.c = true := by kernel_rfl
theorem frac_code.ent : ∀ args w, (callFunc 115 args).run Try.prog w = .ok (.enter 115 args) w := enters Try.func115 (by kernel_rfl) (by kernel_rfl)

/-- epact/epactref19.less -/
def epactref19_less.c : SF := ⟨10, [.t 4],
 (.seq (.region [⟨some 4, .mv (.k (.int .i64 0)), none⟩])
 (.seq (.seq (.region [⟨some 5, .mv (.t 1), none⟩, ⟨some 6, .mv (.t 0), none⟩, ⟨some 7, .bin .lss (.t 5) (.t 6), none⟩])
 (.cond (.t 7)
 (.seq (.region [⟨some 8, .mv (.t 1), none⟩, ⟨some 4, .mv (.t 8), none⟩])
 .ret)
 .skip))
 (.seq (.region [⟨some 9, .mv (.t 0), none⟩, ⟨some 4, .mv (.t 9), none⟩])
 .ret)))⟩
theorem epactref19_less.chk : chkFn Try.prog Try.f116 epactref19_less.c = true := by kernel_rfl
theorem epactref19_less.ent : ∀ args w, (callFunc 116 args).run Try.prog w = .ok (.enter 116 args) w := enters Try.func116 (by kernel_rfl) (by kernel_rfl)

/-- slices.Equal[[]byte,byte] -/
def slices_Equal_byte_byte.l1 : SC :=
 (.seq (.region [⟨some 14, .bin .lss (.t 13) (.t 12), none⟩])
 (.seq (.cond (.t 14)
 .skip
 (.exit 0))
 (.seq (.block 1
 (.seq (.region [⟨some 15, .mv (.t 13), none⟩, ⟨some 5, .mv (.t 15), none⟩])
 (.seq (.region [⟨some 16, .mv (.t 0), none⟩, ⟨some 17, .mv (.t 5), none⟩, ⟨some 18, .idx 1 (.t 16) (.t 17), none⟩, ⟨some 19, .load false 1 (.t 18) none, none⟩, ⟨some 20, .mv (.t 1), none⟩, ⟨some 21, .mv (.t 5), none⟩, ⟨some 22, .idx 1 (.t 20) (.t 21), none⟩, ⟨some 23, .load false 1 (.t 22) none, none⟩, ⟨some 24, .bin .neq (.t 19) (.t 23), none⟩])
 (.cond (.t 24)
 (.seq (.region [⟨some 4, .mv (.k (.bool false)), none⟩])
 .ret)
 .skip))))
 (.region [⟨some 25, .bin .add (.t 13) (.k (.int .i64 1)), none⟩, ⟨some 13, .mv (.t 25), none⟩]))))
def slices_Equal_byte_byte.c : SF := ⟨26, [.t 4],
 (.seq (.region [⟨some 4, .mv (.k (.bool false)), none⟩])
 (.seq (.seq (.region [⟨some 6, .mv (.t 0), none⟩, ⟨some 7, .len (.t 6), none⟩, ⟨some 8, .mv (.t 1), none⟩, ⟨some 9, .len (.t 8), none⟩, ⟨some 10, .bin .neq (.t 7) (.t 9), none⟩])
 (.cond (.t 10)
 (.seq (.region [⟨some 4, .mv (.k (.bool false)), none⟩])
 .ret)
 .skip))
 (.seq (.seq (.region [⟨some 11, .mv (.t 0), none⟩, ⟨some 12, .len (.t 11), none⟩, ⟨some 13, .mv (.k (.int .i64 0)), none⟩])
 (.block 0
 (.loop slices_Equal_byte_byte.l1)))
 (.seq (.region [⟨some 4, .mv (.k (.bool true)), none⟩])
 .ret))))⟩
theorem slices_Equal_byte_byte.chk : chkFn Try.prog Try.f117 slices_Equal_byte_byte.c = true := by kernel_rfl
theorem slices_Equal_byte_byte.ent : ∀ args w, (callFunc 117 args).run Try.prog w = .ok (.enter 117 args) w := enters Try.func117 (by kernel_rfl) (by kernel_rfl)

/-- epact/wide.above -/
def wide_above.c : SF := ⟨7, [.t 2],
 (.seq (.region [⟨some 1, .box (.t 0), none⟩, ⟨some 2, .mv (.k (.bool false)), none⟩])
 (.seq (.region [⟨some 3, .load true 2 (.t 1) (some 1), none⟩, ⟨some 4, .build [.v (.int .i64 0), .v (.int .u64 0)] [], none⟩, ⟨some 5, .call 113 [(.t 3), (.t 4)], none⟩, ⟨some 6, .bin .gtr (.t 5) (.k (.int .i64 0)), none⟩, ⟨some 2, .mv (.t 6), none⟩])
 .ret))⟩
theorem wide_above.chk : chkFn Try.prog Try.f118 wide_above.c = true := by kernel_rfl
theorem wide_above.ent : ∀ args w, (callFunc 118 args).run Try.prog w = .ok (.enter 118 args) w := enters Try.func118 (by kernel_rfl) (by kernel_rfl)

/-- epact/limb.Div -/
def limb_Div.l1 : SC :=
 (.seq (.region [⟨some 31, .bin .lss (.t 30) (.k (.int .i64 128)), none⟩])
 (.seq (.cond (.t 31)
 .skip
 (.exit 0))
 (.seq (.block 1
 (.seq (.region [⟨some 9, .mv (.k (.bool false)), none⟩])
 (.seq (.region [⟨some 33, .load true 2 (.t 7) (some 7), none⟩, ⟨some 34, .fld 0 (.t 4), none⟩, ⟨some 35, .load false 1 (.t 34) (some 4), none⟩, ⟨some 36, .bin .shr (.t 35) (.k (.int .u64 63)), none⟩, ⟨some 37, .call 126 [(.t 33), (.t 36)], none⟩, ⟨some 32, .mv (.t 37), none⟩, ⟨some 38, .ext (.t 32) 0, none⟩, ⟨some 39, .ext (.t 32) 1, none⟩, ⟨none, .store 2 (.t 7) (.t 38) 7, none⟩, ⟨some 9, .mv (.t 39), none⟩])
 (.seq (.region [⟨some 41, .load true 2 (.t 4) (some 4), none⟩, ⟨some 42, .call 126 [(.t 41), (.k (.int .u64 0))], none⟩, ⟨some 40, .mv (.t 42), none⟩, ⟨some 43, .ext (.t 40) 0, none⟩, ⟨some 44, .ext (.t 40) 1, none⟩, ⟨none, .store 2 (.t 4) (.t 43) 4, none⟩])
 (.seq (.region [⟨some 46, .load true 2 (.t 6) (some 6), none⟩, ⟨some 47, .call 126 [(.t 46), (.k (.int .u64 0))], none⟩, ⟨some 45, .mv (.t 47), none⟩, ⟨some 48, .ext (.t 45) 0, none⟩, ⟨some 49, .ext (.t 45) 1, none⟩, ⟨none, .store 2 (.t 6) (.t 48) 6, none⟩])
 (.seq (.region [⟨some 50, .mv (.t 9), none⟩, ⟨some 51, .mv (.t 50), none⟩, ⟨some 52, .load true 2 (.t 7) (some 7), some (51, false)⟩, ⟨some 53, .load true 2 (.t 5) (some 5), some (51, false)⟩, ⟨some 54, .call 123 [(.t 52), (.t 53)], some (51, false)⟩, ⟨some 55, .bin .geq (.t 54) (.k (.int .i64 0)), some (51, false)⟩, ⟨some 56, .pick (.t 51) (.k (.bool true)) (.t 55), none⟩])
 (.cond (.t 56)
 (.seq (.region [⟨some 58, .load true 2 (.t 7) (some 7), none⟩, ⟨some 59, .load true 2 (.t 5) (some 5), none⟩, ⟨some 60, .call 121 [(.t 58), (.t 59)], none⟩, ⟨some 57, .mv (.t 60), none⟩, ⟨some 61, .ext (.t 57) 0, none⟩, ⟨some 62, .ext (.t 57) 1, none⟩, ⟨none, .store 2 (.t 7) (.t 61) 7, none⟩])
 (.region [⟨some 63, .fld 1 (.t 6), none⟩, ⟨some 64, .load false 1 (.t 63) (some 6), none⟩, ⟨some 65, .bin .or (.t 64) (.k (.int .u64 1)), none⟩, ⟨some 66, .fld 1 (.t 6), none⟩, ⟨none, .store 1 (.t 66) (.t 65) 6, none⟩]))
 .skip)))))))
 (.region [⟨some 67, .bin .add (.t 30) (.k (.int .i64 1)), none⟩, ⟨some 30, .mv (.t 67), none⟩]))))
def limb_Div.c : SF := ⟨70, [.c 6 true 2, .c 7 true 2, .t 8],
 (.seq (.region [⟨some 3, .box (.t 0), none⟩, ⟨some 4, .box (.t 1), none⟩, ⟨some 5, .box (.t 2), none⟩, ⟨some 6, .alloc [.v (.int .u64 0), .v (.int .u64 0)], none⟩, ⟨some 7, .alloc [.v (.int .u64 0), .v (.int .u64 0)], none⟩, ⟨some 8, .mv (.k (.bool false)), none⟩])
 (.seq (.seq (.region [⟨some 10, .load true 2 (.t 3) (some 3), none⟩, ⟨some 11, .load true 2 (.t 5) (some 5), none⟩, ⟨some 12, .call 123 [(.t 10), (.t 11)], none⟩, ⟨some 13, .bin .geq (.t 12) (.k (.int .i64 0)), none⟩])
 (.cond (.t 13)
 (.seq (.region [⟨some 14, .build [.v (.int .u64 0), .v (.int .u64 0)] [], none⟩, ⟨some 15, .build [.v (.int .u64 0), .v (.int .u64 0)] [], none⟩, ⟨none, .store 2 (.t 6) (.t 14) 6, none⟩, ⟨none, .store 2 (.t 7) (.t 15) 7, none⟩, ⟨some 8, .mv (.k (.bool false)), none⟩])
 .ret)
 .skip))
 (.seq (.seq (.region [⟨some 16, .fld 0 (.t 5), none⟩, ⟨some 17, .load false 1 (.t 16) (some 5), none⟩, ⟨some 18, .bin .eql (.t 17) (.k (.int .u64 0)), none⟩])
 (.cond (.t 18)
 (.seq (.region [⟨some 20, .load true 2 (.t 3) (some 3), none⟩, ⟨some 21, .load true 2 (.t 4) (some 4), none⟩, ⟨some 22, .fld 1 (.t 5), none⟩, ⟨some 23, .load false 1 (.t 22) (some 5), none⟩, ⟨some 24, .call 125 [(.t 20), (.t 21), (.t 23)], none⟩, ⟨some 19, .mv (.t 24), none⟩, ⟨some 25, .ext (.t 19) 0, none⟩, ⟨some 26, .ext (.t 19) 1, none⟩, ⟨none, .store 2 (.t 6) (.t 25) 6, none⟩, ⟨none, .store 2 (.t 7) (.t 26) 7, none⟩])
 (.seq (.region [⟨some 27, .load true 2 (.t 6) (some 6), none⟩, ⟨some 28, .load true 2 (.t 7) (some 7), none⟩, ⟨none, .store 2 (.t 6) (.t 27) 6, none⟩, ⟨none, .store 2 (.t 7) (.t 28) 7, none⟩, ⟨some 8, .mv (.k (.bool true)), none⟩])
 .ret))
 .skip))
 (.seq (.region [⟨some 29, .load true 2 (.t 3) (some 3), none⟩, ⟨none, .store 2 (.t 7) (.t 29) 7, none⟩])
 (.seq (.seq (.region [⟨some 30, .mv (.k (.int .i64 0)), none⟩])
 (.block 0
 (.loop limb_Div.l1)))
 (.seq (.region [⟨some 68, .load true 2 (.t 6) (some 6), none⟩, ⟨some 69, .load true 2 (.t 7) (some 7), none⟩, ⟨none, .store 2 (.t 6) (.t 68) 6, none⟩, ⟨none, .store 2 (.t 7) (.t 69) 7, none⟩, ⟨some 8, .mv (.k (.bool true)), none⟩])
 .ret))))))⟩
theorem limb_Div.chk : chkFn Try.prog Try.f119 limb_Div.c = true := by kernel_rfl
theorem limb_Div.ent : ∀ args w, (callFunc 119 args).run Try.prog w = .ok (.enter 119 args) w := enters Try.func119 (by kernel_rfl) (by kernel_rfl)

/-- epact/wide.least -/
def wide_least.c : SF := ⟨6, [.t 2],
 (.seq (.region [⟨some 1, .box (.t 0), none⟩, ⟨some 2, .mv (.k (.bool false)), none⟩])
 (.seq (.region [⟨some 3, .load true 2 (.t 1) (some 1), none⟩, ⟨some 4, .build [.v (.int .i64 0), .v (.int .u64 0)] [(0, 1, (.k (.int .i64 (-9223372036854775808))))], none⟩, ⟨some 5, .eqs false [.i64, .u64] (.t 3) (.t 4), none⟩, ⟨some 2, .mv (.t 5), none⟩])
 .ret))⟩
theorem wide_least.chk : chkFn Try.prog Try.f120 wide_least.c = true := by kernel_rfl
theorem wide_least.ent : ∀ args w, (callFunc 120 args).run Try.prog w = .ok (.enter 120 args) w := enters Try.func120 (by kernel_rfl) (by kernel_rfl)

/-- epact/limb.Sub -/
def limb_Sub.c : SF := ⟨31, [.c 4 true 2, .t 5],
 (.seq (.region [⟨some 2, .box (.t 0), none⟩, ⟨some 3, .box (.t 1), none⟩, ⟨some 4, .alloc [.v (.int .u64 0), .v (.int .u64 0)], none⟩, ⟨some 5, .mv (.k (.bool false)), none⟩])
 (.seq (.region [⟨some 10, .fld 1 (.t 2), none⟩, ⟨some 11, .load false 1 (.t 10) (some 2), none⟩, ⟨some 12, .fld 1 (.t 3), none⟩, ⟨some 13, .load false 1 (.t 12) (some 3), none⟩, ⟨some 14, .call 127 [(.t 11), (.t 13), (.k (.int .u64 0))], none⟩, ⟨some 9, .mv (.t 14), none⟩, ⟨some 15, .ext (.t 9) 0, none⟩, ⟨some 16, .ext (.t 9) 1, none⟩, ⟨some 6, .mv (.t 15), none⟩, ⟨some 7, .mv (.t 16), none⟩])
 (.seq (.region [⟨some 18, .fld 0 (.t 2), none⟩, ⟨some 19, .load false 1 (.t 18) (some 2), none⟩, ⟨some 20, .fld 0 (.t 3), none⟩, ⟨some 21, .load false 1 (.t 20) (some 3), none⟩, ⟨some 22, .mv (.t 7), none⟩, ⟨some 23, .call 127 [(.t 19), (.t 21), (.t 22)], none⟩, ⟨some 17, .mv (.t 23), none⟩, ⟨some 24, .ext (.t 17) 0, none⟩, ⟨some 25, .ext (.t 17) 1, none⟩, ⟨some 8, .mv (.t 24), none⟩, ⟨some 7, .mv (.t 25), none⟩])
 (.seq (.region [⟨some 26, .mv (.t 8), none⟩, ⟨some 27, .mv (.t 6), none⟩, ⟨some 28, .build [.v (.int .u64 0), .v (.int .u64 0)] [(0, 1, (.t 26)), (1, 1, (.t 27))], none⟩, ⟨some 29, .mv (.t 7), none⟩, ⟨some 30, .bin .eql (.t 29) (.k (.int .u64 1)), none⟩, ⟨none, .store 2 (.t 4) (.t 28) 4, none⟩, ⟨some 5, .mv (.t 30), none⟩])
 .ret))))⟩
theorem limb_Sub.chk : chkFn Try.prog Try.f121 limb_Sub.c = true := by kernel_rfl
theorem limb_Sub.ent : ∀ args w, (callFunc 121 args).run Try.prog w = .ok (.enter 121 args) w := enters Try.func121 (by kernel_rfl) (by kernel_rfl)

/-- epact/limb.Cmp -/
def limb_Cmp.c : SF := ⟨29, [.t 4],
 (.seq (.region [⟨some 2, .box (.t 0), none⟩, ⟨some 3, .box (.t 1), none⟩, ⟨some 4, .mv (.k (.int .i64 0)), none⟩])
 (.seq (.block 0
 (.seq (.region [⟨some 6, .load true 2 (.t 2) (some 2), none⟩, ⟨some 7, .load true 2 (.t 3) (some 3), none⟩, ⟨some 8, .eqs false [.u64, .u64] (.t 6) (.t 7), none⟩, ⟨some 5, .mv (.t 8), none⟩])
 (.cond (.t 5)
 (.seq (.region [⟨some 4, .mv (.k (.int .i64 0)), none⟩])
 .ret)
 (.seq (.region [⟨some 10, .fld 0 (.t 2), none⟩, ⟨some 11, .load false 1 (.t 10) (some 2), none⟩, ⟨some 12, .fld 0 (.t 3), none⟩, ⟨some 13, .load false 1 (.t 12) (some 3), none⟩, ⟨some 14, .bin .lss (.t 11) (.t 13), none⟩, ⟨some 15, .mv (.t 14), none⟩, ⟨some 16, .fld 0 (.t 2), some (15, false)⟩, ⟨some 17, .load false 1 (.t 16) (some 2), some (15, false)⟩, ⟨some 18, .fld 0 (.t 3), some (15, false)⟩, ⟨some 19, .load false 1 (.t 18) (some 3), some (15, false)⟩, ⟨some 20, .bin .eql (.t 17) (.t 19), some (15, false)⟩, ⟨some 21, .mv (.t 20), some (15, false)⟩, ⟨some 22, .fld 1 (.t 2), some (21, true)⟩, ⟨some 23, .load false 1 (.t 22) (some 2), some (21, true)⟩, ⟨some 24, .fld 1 (.t 3), some (21, true)⟩, ⟨some 25, .load false 1 (.t 24) (some 3), some (21, true)⟩, ⟨some 26, .bin .lss (.t 23) (.t 25), some (21, true)⟩, ⟨some 27, .pick (.t 21) (.t 26) (.k (.bool false)), some (15, false)⟩, ⟨some 28, .pick (.t 15) (.k (.bool true)) (.t 27), none⟩, ⟨some 9, .mv (.t 28), none⟩])
 (.cond (.t 9)
 (.seq (.region [⟨some 4, .mv (.k (.int .i64 (-1))), none⟩])
 .ret)
 .skip)))))
 (.seq (.region [⟨some 4, .mv (.k (.int .i64 1)), none⟩])
 .ret)))⟩
theorem limb_Cmp.chk : chkFn Try.prog Try.f123 limb_Cmp.c = true := by kernel_rfl
theorem limb_Cmp.ent : ∀ args w, (callFunc 123 args).run Try.prog w = .ok (.enter 123 args) w := enters Try.func123 (by kernel_rfl) (by kernel_rfl)

/-- epact/limb.short -/
def limb_short.c : SF := ⟨33, [.c 6 true 2, .c 7 true 2],
 (.seq (.region [⟨some 3, .box (.t 0), none⟩, ⟨some 4, .box (.t 1), none⟩, ⟨some 6, .alloc [.v (.int .u64 0), .v (.int .u64 0)], none⟩, ⟨some 7, .alloc [.v (.int .u64 0), .v (.int .u64 0)], none⟩])
 (.seq (.region [⟨some 12, .fld 1 (.t 3), none⟩, ⟨some 13, .load false 1 (.t 12) (some 3), none⟩, ⟨some 14, .fld 0 (.t 4), none⟩, ⟨some 15, .load false 1 (.t 14) (some 4), none⟩, ⟨some 16, .mv (.t 2), none⟩, ⟨some 17, .call 129 [(.t 13), (.t 15), (.t 16)], none⟩, ⟨some 11, .mv (.t 17), none⟩, ⟨some 18, .ext (.t 11) 0, none⟩, ⟨some 19, .ext (.t 11) 1, none⟩, ⟨some 8, .mv (.t 18), none⟩, ⟨some 9, .mv (.t 19), none⟩])
 (.seq (.region [⟨some 21, .mv (.t 9), none⟩, ⟨some 22, .fld 1 (.t 4), none⟩, ⟨some 23, .load false 1 (.t 22) (some 4), none⟩, ⟨some 24, .mv (.t 2), none⟩, ⟨some 25, .call 129 [(.t 21), (.t 23), (.t 24)], none⟩, ⟨some 20, .mv (.t 25), none⟩, ⟨some 26, .ext (.t 20) 0, none⟩, ⟨some 27, .ext (.t 20) 1, none⟩, ⟨some 10, .mv (.t 26), none⟩, ⟨some 9, .mv (.t 27), none⟩])
 (.seq (.region [⟨some 28, .mv (.t 8), none⟩, ⟨some 29, .mv (.t 10), none⟩, ⟨some 30, .build [.v (.int .u64 0), .v (.int .u64 0)] [(0, 1, (.t 28)), (1, 1, (.t 29))], none⟩, ⟨some 31, .mv (.t 9), none⟩, ⟨some 32, .build [.v (.int .u64 0), .v (.int .u64 0)] [(0, 1, (.k (.int .u64 0))), (1, 1, (.t 31))], none⟩, ⟨none, .store 2 (.t 6) (.t 30) 6, none⟩, ⟨none, .store 2 (.t 7) (.t 32) 7, none⟩])
 .ret))))⟩
theorem limb_short.chk : chkFn Try.prog Try.f125 limb_short.c = true := by kernel_rfl
theorem limb_short.ent : ∀ args w, (callFunc 125 args).run Try.prog w = .ok (.enter 125 args) w := enters Try.func125 (by kernel_rfl) (by kernel_rfl)

/-- epact/limb.double -/
def limb_double.c : SF := ⟨23, [.c 4 true 2, .t 5],
 (.seq (.region [⟨some 2, .box (.t 0), none⟩, ⟨some 4, .alloc [.v (.int .u64 0), .v (.int .u64 0)], none⟩, ⟨some 5, .mv (.k (.bool false)), none⟩])
 (.seq (.region [⟨some 6, .fld 0 (.t 2), none⟩, ⟨some 7, .load false 1 (.t 6) (some 2), none⟩, ⟨some 8, .bin .shl (.t 7) (.k (.int .u64 1)), none⟩, ⟨some 9, .fld 1 (.t 2), none⟩, ⟨some 10, .load false 1 (.t 9) (some 2), none⟩, ⟨some 11, .bin .shr (.t 10) (.k (.int .u64 63)), none⟩, ⟨some 12, .bin .or (.t 8) (.t 11), none⟩, ⟨some 13, .fld 1 (.t 2), none⟩, ⟨some 14, .load false 1 (.t 13) (some 2), none⟩, ⟨some 15, .bin .shl (.t 14) (.k (.int .u64 1)), none⟩, ⟨some 16, .mv (.t 1), none⟩, ⟨some 17, .bin .or (.t 15) (.t 16), none⟩, ⟨some 18, .build [.v (.int .u64 0), .v (.int .u64 0)] [(0, 1, (.t 12)), (1, 1, (.t 17))], none⟩, ⟨some 19, .fld 0 (.t 2), none⟩, ⟨some 20, .load false 1 (.t 19) (some 2), none⟩, ⟨some 21, .bin .shr (.t 20) (.k (.int .u64 63)), none⟩, ⟨some 22, .bin .eql (.t 21) (.k (.int .u64 1)), none⟩, ⟨none, .store 2 (.t 4) (.t 18) 4, none⟩, ⟨some 5, .mv (.t 22), none⟩])
 .ret))⟩
theorem limb_double.chk : chkFn Try.prog Try.f126 limb_double.c = true := by kernel_rfl
theorem limb_double.ent : ∀ args w, (callFunc 126 args).run Try.prog w = .ok (.enter 126 args) w := enters Try.func126 (by kernel_rfl) (by kernel_rfl)

/-- math/bits.Mul64 -/
def bits_Mul64.c : SF := ⟨51, [.t 4, .t 5],
 (.seq (.region [⟨some 4, .mv (.k (.int .u64 0)), none⟩, ⟨some 5, .mv (.k (.int .u64 0)), none⟩])
 (.seq (.region [⟨some 14, .mv (.t 0), none⟩, ⟨some 15, .bin .and (.t 14) (.k (.int .u64 4294967295)), none⟩, ⟨some 6, .mv (.t 15), none⟩])
 (.seq (.region [⟨some 16, .mv (.t 0), none⟩, ⟨some 17, .bin .shr (.t 16) (.k (.int .u64 32)), none⟩, ⟨some 7, .mv (.t 17), none⟩])
 (.seq (.region [⟨some 18, .mv (.t 1), none⟩, ⟨some 19, .bin .and (.t 18) (.k (.int .u64 4294967295)), none⟩, ⟨some 8, .mv (.t 19), none⟩])
 (.seq (.region [⟨some 20, .mv (.t 1), none⟩, ⟨some 21, .bin .shr (.t 20) (.k (.int .u64 32)), none⟩, ⟨some 9, .mv (.t 21), none⟩])
 (.seq (.region [⟨some 22, .mv (.t 6), none⟩, ⟨some 23, .mv (.t 8), none⟩, ⟨some 24, .bin .mul (.t 22) (.t 23), none⟩, ⟨some 10, .mv (.t 24), none⟩])
 (.seq (.region [⟨some 25, .mv (.t 7), none⟩, ⟨some 26, .mv (.t 8), none⟩, ⟨some 27, .bin .mul (.t 25) (.t 26), none⟩, ⟨some 28, .mv (.t 10), none⟩, ⟨some 29, .bin .shr (.t 28) (.k (.int .u64 32)), none⟩, ⟨some 30, .bin .add (.t 27) (.t 29), none⟩, ⟨some 11, .mv (.t 30), none⟩])
 (.seq (.region [⟨some 31, .mv (.t 11), none⟩, ⟨some 32, .bin .and (.t 31) (.k (.int .u64 4294967295)), none⟩, ⟨some 12, .mv (.t 32), none⟩])
 (.seq (.region [⟨some 33, .mv (.t 11), none⟩, ⟨some 34, .bin .shr (.t 33) (.k (.int .u64 32)), none⟩, ⟨some 13, .mv (.t 34), none⟩])
 (.seq (.region [⟨some 35, .mv (.t 12), none⟩, ⟨some 36, .mv (.t 6), none⟩, ⟨some 37, .mv (.t 9), none⟩, ⟨some 38, .bin .mul (.t 36) (.t 37), none⟩, ⟨some 39, .bin .add (.t 35) (.t 38), none⟩, ⟨some 12, .mv (.t 39), none⟩])
 (.seq (.region [⟨some 40, .mv (.t 7), none⟩, ⟨some 41, .mv (.t 9), none⟩, ⟨some 42, .bin .mul (.t 40) (.t 41), none⟩, ⟨some 43, .mv (.t 13), none⟩, ⟨some 44, .bin .add (.t 42) (.t 43), none⟩, ⟨some 45, .mv (.t 12), none⟩, ⟨some 46, .bin .shr (.t 45) (.k (.int .u64 32)), none⟩, ⟨some 47, .bin .add (.t 44) (.t 46), none⟩, ⟨some 4, .mv (.t 47), none⟩])
 (.seq (.region [⟨some 48, .mv (.t 0), none⟩, ⟨some 49, .mv (.t 1), none⟩, ⟨some 50, .bin .mul (.t 48) (.t 49), none⟩, ⟨some 5, .mv (.t 50), none⟩])
 .ret))))))))))))⟩
theorem bits_Mul64.chk : chkFn Try.prog Try.f128 bits_Mul64.c = true := by kernel_rfl
theorem bits_Mul64.ent : ∀ args w, (callFunc 128 args).run Try.prog w = .ok (.enter 128 args) w := enters Try.func128 (by kernel_rfl) (by kernel_rfl)

/-- math/bits.Div64 -/
def bits_Div64.l1 : SC :=
 (.seq (.seq (.region [⟨some 67, .mv (.t 15), none⟩, ⟨some 68, .bin .geq (.t 67) (.k (.int .u64 4294967296)), none⟩, ⟨some 69, .mv (.t 68), none⟩, ⟨some 70, .mv (.t 15), some (69, false)⟩, ⟨some 71, .mv (.t 10), some (69, false)⟩, ⟨some 72, .bin .mul (.t 70) (.t 71), some (69, false)⟩, ⟨some 73, .mv (.t 16), some (69, false)⟩, ⟨some 74, .bin .mul (.k (.int .u64 4294967296)) (.t 73), some (69, false)⟩, ⟨some 75, .mv (.t 13), some (69, false)⟩, ⟨some 76, .bin .add (.t 74) (.t 75), some (69, false)⟩, ⟨some 77, .bin .gtr (.t 72) (.t 76), some (69, false)⟩, ⟨some 78, .pick (.t 69) (.k (.bool true)) (.t 77), none⟩])
 (.cond (.t 78)
 .skip
 (.exit 0)))
 (.block 1
 (.seq (.region [⟨some 79, .mv (.t 15), none⟩, ⟨some 80, .bin .sub (.t 79) (.k (.int .u64 1)), none⟩, ⟨some 15, .mv (.t 80), none⟩])
 (.seq (.region [⟨some 81, .mv (.t 16), none⟩, ⟨some 82, .mv (.t 9), none⟩, ⟨some 83, .bin .add (.t 81) (.t 82), none⟩, ⟨some 16, .mv (.t 83), none⟩])
 (.seq (.region [⟨some 84, .mv (.t 16), none⟩, ⟨some 85, .bin .geq (.t 84) (.k (.int .u64 4294967296)), none⟩])
 (.cond (.t 85)
 (.exit 0)
 .skip))))))
def bits_Div64.l2 : SC :=
 (.seq (.seq (.region [⟨some 102, .mv (.t 18), none⟩, ⟨some 103, .bin .geq (.t 102) (.k (.int .u64 4294967296)), none⟩, ⟨some 104, .mv (.t 103), none⟩, ⟨some 105, .mv (.t 18), some (104, false)⟩, ⟨some 106, .mv (.t 10), some (104, false)⟩, ⟨some 107, .bin .mul (.t 105) (.t 106), some (104, false)⟩, ⟨some 108, .mv (.t 16), some (104, false)⟩, ⟨some 109, .bin .mul (.k (.int .u64 4294967296)) (.t 108), some (104, false)⟩, ⟨some 110, .mv (.t 14), some (104, false)⟩, ⟨some 111, .bin .add (.t 109) (.t 110), some (104, false)⟩, ⟨some 112, .bin .gtr (.t 107) (.t 111), some (104, false)⟩, ⟨some 113, .pick (.t 104) (.k (.bool true)) (.t 112), none⟩])
 (.cond (.t 113)
 .skip
 (.exit 2)))
 (.block 3
 (.seq (.region [⟨some 114, .mv (.t 18), none⟩, ⟨some 115, .bin .sub (.t 114) (.k (.int .u64 1)), none⟩, ⟨some 18, .mv (.t 115), none⟩])
 (.seq (.region [⟨some 116, .mv (.t 16), none⟩, ⟨some 117, .mv (.t 9), none⟩, ⟨some 118, .bin .add (.t 116) (.t 117), none⟩, ⟨some 16, .mv (.t 118), none⟩])
 (.seq (.region [⟨some 119, .mv (.t 16), none⟩, ⟨some 120, .bin .geq (.t 119) (.k (.int .u64 4294967296)), none⟩])
 (.cond (.t 120)
 (.exit 2)
 .skip))))))
def bits_Div64.c : SF := ⟨135, [.t 6, .t 7],
 (.seq (.region [⟨some 6, .mv (.k (.int .u64 0)), none⟩, ⟨some 7, .mv (.k (.int .u64 0)), none⟩])
 (.seq (.seq (.region [⟨some 19, .mv (.t 2), none⟩, ⟨some 20, .bin .eql (.t 19) (.k (.int .u64 0)), none⟩])
 (.cond (.t 20)
 .bad
 .skip))
 (.seq (.seq (.region [⟨some 22, .mv (.t 2), none⟩, ⟨some 23, .mv (.t 0), none⟩, ⟨some 24, .bin .leq (.t 22) (.t 23), none⟩])
 (.cond (.t 24)
 .bad
 .skip))
 (.seq (.seq (.region [⟨some 26, .mv (.t 0), none⟩, ⟨some 27, .bin .eql (.t 26) (.k (.int .u64 0)), none⟩])
 (.cond (.t 27)
 (.seq (.region [⟨some 28, .mv (.t 1), none⟩, ⟨some 29, .mv (.t 2), none⟩, ⟨some 30, .bin .quo (.t 28) (.t 29), none⟩, ⟨some 31, .mv (.t 1), none⟩, ⟨some 32, .mv (.t 2), none⟩, ⟨some 33, .bin .rem (.t 31) (.t 32), none⟩, ⟨some 6, .mv (.t 30), none⟩, ⟨some 7, .mv (.t 33), none⟩])
 .ret)
 .skip))
 (.seq (.region [⟨some 34, .mv (.t 2), none⟩, ⟨some 35, .call 130 [(.t 34)], none⟩, ⟨some 36, .cvt .u64 (.t 35), none⟩, ⟨some 8, .mv (.t 36), none⟩])
 (.seq (.region [⟨some 37, .mv (.t 2), none⟩, ⟨some 38, .mv (.t 8), none⟩, ⟨some 39, .bin .shl (.t 37) (.t 38), none⟩, ⟨some 2, .mv (.t 39), none⟩])
 (.seq (.region [⟨some 40, .mv (.t 2), none⟩, ⟨some 41, .bin .shr (.t 40) (.k (.int .u64 32)), none⟩, ⟨some 9, .mv (.t 41), none⟩])
 (.seq (.region [⟨some 42, .mv (.t 2), none⟩, ⟨some 43, .bin .and (.t 42) (.k (.int .u64 4294967295)), none⟩, ⟨some 10, .mv (.t 43), none⟩])
 (.seq (.region [⟨some 44, .mv (.t 0), none⟩, ⟨some 45, .mv (.t 8), none⟩, ⟨some 46, .bin .shl (.t 44) (.t 45), none⟩, ⟨some 47, .mv (.t 1), none⟩, ⟨some 48, .mv (.t 8), none⟩, ⟨some 49, .bin .sub (.k (.int .u64 64)) (.t 48), none⟩, ⟨some 50, .bin .shr (.t 47) (.t 49), none⟩, ⟨some 51, .bin .or (.t 46) (.t 50), none⟩, ⟨some 11, .mv (.t 51), none⟩])
 (.seq (.region [⟨some 52, .mv (.t 1), none⟩, ⟨some 53, .mv (.t 8), none⟩, ⟨some 54, .bin .shl (.t 52) (.t 53), none⟩, ⟨some 12, .mv (.t 54), none⟩])
 (.seq (.region [⟨some 55, .mv (.t 12), none⟩, ⟨some 56, .bin .shr (.t 55) (.k (.int .u64 32)), none⟩, ⟨some 13, .mv (.t 56), none⟩])
 (.seq (.region [⟨some 57, .mv (.t 12), none⟩, ⟨some 58, .bin .and (.t 57) (.k (.int .u64 4294967295)), none⟩, ⟨some 14, .mv (.t 58), none⟩])
 (.seq (.region [⟨some 59, .mv (.t 11), none⟩, ⟨some 60, .mv (.t 9), none⟩, ⟨some 61, .bin .quo (.t 59) (.t 60), none⟩, ⟨some 15, .mv (.t 61), none⟩])
 (.seq (.region [⟨some 62, .mv (.t 11), none⟩, ⟨some 63, .mv (.t 15), none⟩, ⟨some 64, .mv (.t 9), none⟩, ⟨some 65, .bin .mul (.t 63) (.t 64), none⟩, ⟨some 66, .bin .sub (.t 62) (.t 65), none⟩, ⟨some 16, .mv (.t 66), none⟩])
 (.seq (.block 0
 (.loop bits_Div64.l1))
 (.seq (.region [⟨some 86, .mv (.t 11), none⟩, ⟨some 87, .bin .mul (.t 86) (.k (.int .u64 4294967296)), none⟩, ⟨some 88, .mv (.t 13), none⟩, ⟨some 89, .bin .add (.t 87) (.t 88), none⟩, ⟨some 90, .mv (.t 15), none⟩, ⟨some 91, .mv (.t 2), none⟩, ⟨some 92, .bin .mul (.t 90) (.t 91), none⟩, ⟨some 93, .bin .sub (.t 89) (.t 92), none⟩, ⟨some 17, .mv (.t 93), none⟩])
 (.seq (.region [⟨some 94, .mv (.t 17), none⟩, ⟨some 95, .mv (.t 9), none⟩, ⟨some 96, .bin .quo (.t 94) (.t 95), none⟩, ⟨some 18, .mv (.t 96), none⟩])
 (.seq (.region [⟨some 97, .mv (.t 17), none⟩, ⟨some 98, .mv (.t 18), none⟩, ⟨some 99, .mv (.t 9), none⟩, ⟨some 100, .bin .mul (.t 98) (.t 99), none⟩, ⟨some 101, .bin .sub (.t 97) (.t 100), none⟩, ⟨some 16, .mv (.t 101), none⟩])
 (.seq (.block 2
 (.loop bits_Div64.l2))
 (.seq (.region [⟨some 121, .mv (.t 15), none⟩, ⟨some 122, .bin .mul (.t 121) (.k (.int .u64 4294967296)), none⟩, ⟨some 123, .mv (.t 18), none⟩, ⟨some 124, .bin .add (.t 122) (.t 123), none⟩, ⟨some 125, .mv (.t 17), none⟩, ⟨some 126, .bin .mul (.t 125) (.k (.int .u64 4294967296)), none⟩, ⟨some 127, .mv (.t 14), none⟩, ⟨some 128, .bin .add (.t 126) (.t 127), none⟩, ⟨some 129, .mv (.t 18), none⟩, ⟨some 130, .mv (.t 2), none⟩, ⟨some 131, .bin .mul (.t 129) (.t 130), none⟩, ⟨some 132, .bin .sub (.t 128) (.t 131), none⟩, ⟨some 133, .mv (.t 8), none⟩, ⟨some 134, .bin .shr (.t 132) (.t 133), none⟩, ⟨some 6, .mv (.t 124), none⟩, ⟨some 7, .mv (.t 134), none⟩])
 .ret))))))))))))))))))))⟩
theorem bits_Div64.chk : chkFn Try.prog Try.f129 bits_Div64.c = true := by kernel_rfl
theorem bits_Div64.ent : ∀ args w, (callFunc 129 args).run Try.prog w = .ok (.enter 129 args) w := enters Try.func129 (by kernel_rfl) (by kernel_rfl)

/-- math/bits.LeadingZeros64 -/
def bits_LeadingZeros64.c : SF := ⟨6, [.t 2],
 (.seq (.region [⟨some 2, .mv (.k (.int .i64 0)), none⟩])
 (.seq (.region [⟨some 3, .mv (.t 0), none⟩, ⟨some 4, .call 131 [(.t 3)], none⟩, ⟨some 5, .bin .sub (.k (.int .i64 64)) (.t 4), none⟩, ⟨some 2, .mv (.t 5), none⟩])
 .ret))⟩
theorem bits_LeadingZeros64.chk : chkFn Try.prog Try.f130 bits_LeadingZeros64.c = true := by kernel_rfl
theorem bits_LeadingZeros64.ent : ∀ args w, (callFunc 130 args).run Try.prog w = .ok (.enter 130 args) w := enters Try.func130 (by kernel_rfl) (by kernel_rfl)

end Go.Proofs.Ytnjipdicfbkfdaa.E
